/- Statements of functions, and that their calls do what they say. Printed by wip/tool/dec.py. Conditions: none. -/
import Derived.Test.YthgmebhkbbehmaaG0
namespace Go.Proofs.Ythgmebhkbbehmaa.G
open Go.Dec
set_option linter.unusedVariables false

/-! ### stopcock/stopcocklaw14.SlateLoads: function 3 -/
def stopcocklaw14_SlateLoads.k1 (t6 : Nat) (t7 : Nat) (t8 : Int) (t9 : Int) (t10 : Int) (t11 : Nat) (t12 : Nat) (w : World) (R : Ending → World → Prop) : Prop :=
  cond (t10 == 0) (
    cond (t9 == 11) (
      cond (t8 == 0) (
        ∃ (cs7 : Array Value), cs7.size = 2 ∧ CellsAt w (⟨t7, 0, none⟩ : Addr) cs7.toList ∧
        (∃ (b8 : Bool), eqRun Try.prog .eql 34 (.tmp 69) (.tmp 70) (Value.agg cs7) (Value.agg #[(Value.int .i64 0), (Value.int .i64 0)]) b8 ∧
          (cond b8 (
              ∃ (cs8 : Array Value), cs8.size = 24 ∧ CellsAt w (⟨t6, 0, none⟩ : Addr) cs8.toList ∧
              (callP Try.prog 9 #[(Value.agg cs8), (Value.agg #[(Value.int .i64 0), (Value.int .i64 0), (Value.int .i64 0), (Value.int .i64 0), (Value.int .i64 0), (Value.int .i64 0), (Value.int .i64 0), (Value.int .i64 0), (Value.int .i64 0), (Value.int .i64 0), (Value.int .i64 0), (Value.int .i64 0), (Value.int .i64 0), (Value.int .i64 0), (Value.int .i64 0), (Value.int .i64 0), (Value.slice none 0 0), (Value.slice none 0 0), (Value.slice none 0 0), (Value.slice none 0 0), (Value.slice none 0 0), (Value.slice none 0 0), (Value.slice none 0 0), (Value.slice none 0 0)])] w (fun v14 w25 =>
                  dB v14 fun b9 =>
                  R (.returned (Value.bool b9)) w25) (fun ch w26 => R (.panicked ch) w26))) (
              R (.returned (Value.bool false)) w)))) (
        R (.returned (Value.bool false)) w)) (
      R (.returned (Value.bool false)) w)) (
    cond (t9 == 0) (
      cond (t8 == t10) (
        ∃ (cs9 : Array Value), cs9.size = 2 ∧ CellsAt w (⟨t7, 0, none⟩ : Addr) cs9.toList ∧
        (∃ (cs10 : Array Value), cs10.size = 2 ∧ CellsAt w (⟨t12, 0, none⟩ : Addr) cs10.toList ∧
          (∃ (b10 : Bool), eqRun Try.prog .eql 34 (.tmp 86) (.tmp 87) (Value.agg cs9) (Value.agg cs10) b10 ∧
            (cond b10 (
                ∃ (cs11 : Array Value), cs11.size = 24 ∧ CellsAt w (⟨t6, 0, none⟩ : Addr) cs11.toList ∧
                (∃ (cs12 : Array Value), cs12.size = 24 ∧ CellsAt w (⟨t11, 0, none⟩ : Addr) cs12.toList ∧
                  (callP Try.prog 9 #[(Value.agg cs11), (Value.agg cs12)] w (fun v15 w27 =>
                      dB v15 fun b11 =>
                      R (.returned (Value.bool b11)) w27) (fun ch w28 => R (.panicked ch) w28)))) (
                R (.returned (Value.bool false)) w))))) (
        R (.returned (Value.bool false)) w)) (
      R (.returned (Value.bool false)) w))
def stopcocklaw14_SlateLoads.b1 (t5 : Option Addr) (t6 : Nat) (t7 : Nat) (t8 : Int) (t9 : Int) (t10 : Int) (t11 : Nat) (t12 : Nat) (t13 : Int) (w : World) (R : Ending → World → Prop) (C1 : Option Addr → Nat → Nat → Int → Int → Int → Nat → Nat → Int → World → Prop) : Prop :=
  cond (decide (t13 < 2)) (
    callP Try.prog 8 #[(Value.pointer t5), (Value.int .i64 (IntKind.i64.wrap (12 * t13)))] w (fun v8 w15 =>
      dS v8 fun p2 n1 c1 =>
      callP Try.prog 7 #[(Value.slice p2 n1 c1)] w15 (fun v9 w17 =>
        dT v9 fun vs2 =>
        optP (vs2[0]?) fun v10 =>
        dA v10 fun cs3 =>
        optP (vs2[1]?) fun v11 =>
        dA v11 fun cs4 =>
        optP (vs2[2]?) fun v12 =>
        dI .i64 v12 fun x3 =>
        optP (vs2[3]?) fun v13 =>
        dI .i64 v13 fun x4 =>
        newP w17 #[(Value.int .i64 0), (Value.int .i64 0), (Value.int .i64 0), (Value.int .i64 0), (Value.int .i64 0), (Value.int .i64 0), (Value.int .i64 0), (Value.int .i64 0), (Value.int .i64 0), (Value.int .i64 0), (Value.int .i64 0), (Value.int .i64 0), (Value.int .i64 0), (Value.int .i64 0), (Value.int .i64 0), (Value.int .i64 0), (Value.slice none 0 0), (Value.slice none 0 0), (Value.slice none 0 0), (Value.slice none 0 0), (Value.slice none 0 0), (Value.slice none 0 0), (Value.slice none 0 0), (Value.slice none 0 0)] 32 fun b6 w19 =>
        newP w19 #[(Value.int .i64 0), (Value.int .i64 0)] 34 fun b7 w20 =>
        chk (decide (cs3.size = 24)) (
          Wr w20 (⟨b6, 0, none⟩ : Addr) cs3.toList ∧ ∀ w21, w21 = w20.setCells (⟨b6, 0, none⟩ : Addr).block (⟨b6, 0, none⟩ : Addr).off cs3.toList →
          (chk (decide (cs4.size = 2)) (
              Wr w21 (⟨b7, 0, none⟩ : Addr) cs4.toList ∧ ∀ w22, w22 = w21.setCells (⟨b7, 0, none⟩ : Addr).block (⟨b7, 0, none⟩ : Addr).off cs4.toList →
              (cond (x4 == 0) (
                  cond (decide (x3 > t10)) (
                    ∃ (cs5 : Array Value), cs5.size = 24 ∧ CellsAt w22.drew (⟨b6, 0, none⟩ : Addr) cs5.toList ∧
                    (∃ (cs6 : Array Value), cs6.size = 2 ∧ CellsAt w22.drew (⟨b7, 0, none⟩ : Addr) cs6.toList ∧
                      (chk (decide (cs5.size = 24)) (
                          Wr w22.drew (⟨t11, 0, none⟩ : Addr) cs5.toList ∧ ∀ w23, w23 = w22.drew.setCells (⟨t11, 0, none⟩ : Addr).block (⟨t11, 0, none⟩ : Addr).off cs5.toList →
                          (chk (decide (cs6.size = 2)) (
                          CellsAt w23 (⟨b7, 0, none⟩ : Addr) cs6.toList ∧
                          (chk (decide (cs6.size = 2)) (
                          Wr w23 (⟨t12, 0, none⟩ : Addr) cs6.toList ∧ ∀ w24, w24 = w23.setCells (⟨t12, 0, none⟩ : Addr).block (⟨t12, 0, none⟩ : Addr).off cs6.toList →
                          (C1 t5 t6 t7 t8 t9 x3 t11 t12 (IntKind.i64.wrap (t13 + 1)) w24))))))))) (
                    C1 t5 t6 t7 t8 t9 t10 t11 t12 (IntKind.i64.wrap (t13 + 1)) w22)) (
                  C1 t5 t6 t7 t8 t9 t10 t11 t12 (IntKind.i64.wrap (t13 + 1)) w22)))))) (fun ch w18 => R (.panicked ch) w18)) (fun ch w16 => R (.panicked ch) w16)) (
    stopcocklaw14_SlateLoads.k1 t6 t7 t8 t9 t10 t11 t12 w R)
def stopcocklaw14_SlateLoads.l1 (t5 : Option Addr) (t6 : Nat) (t7 : Nat) (t8 : Int) (t9 : Int) (t10 : Int) (t11 : Nat) (t12 : Nat) (t13 : Int) (w : World) (R : Ending → World → Prop) : Prop :=
  ∃ (I : Option Addr → Nat → Nat → Int → Int → Int → Nat → Nat → Int → World → Prop) (m : Option Addr → Nat → Nat → Int → Int → Int → Nat → Nat → Int → World → Nat), I t5 t6 t7 t8 t9 t10 t11 t12 t13 w ∧
  ∀ (t5 : Option Addr) (t6 : Nat) (t7 : Nat) (t8 : Int) (t9 : Int) (t10 : Int) (t11 : Nat) (t12 : Nat) (t13 : Int) (w : World), I t5 t6 t7 t8 t9 t10 t11 t12 t13 w →
  stopcocklaw14_SlateLoads.b1 t5 t6 t7 t8 t9 t10 t11 t12 t13 w R (fun t5' t6' t7' t8' t9' t10' t11' t12' t13' w' => I t5' t6' t7' t8' t9' t10' t11' t12' t13' w' ∧ m t5' t6' t7' t8' t9' t10' t11' t12' t13' w' < m t5 t6 t7 t8 t9 t10 t11 t12 t13 w)
def stopcocklaw14_SlateLoads.main (a0p : Option Addr) (a0n : Nat) (a0c : Nat) (a1p : Option Addr) (a1n : Nat) (a1c : Nat) (w : World) (R : Ending → World → Prop) : Prop :=
  callP Try.prog 4 #[(Value.slice a0p a0n a0c), (Value.slice a1p a1n a1c)] w (fun v1 w1 =>
    dP v1 fun p1 =>
    callP Try.prog 5 #[] w1 (fun v2 w3 =>
      dB v2 fun b1 =>
      cond (!b1) (
        R (.returned (Value.bool false)) w3) (
        cond (Option.isNone p1) (
          R (.returned (Value.bool false)) w3) (
          callP Try.prog 6 #[(Value.pointer p1)] w3 (fun v3 w5 =>
            dT v3 fun vs1 =>
            optP (vs1[0]?) fun v4 =>
            dA v4 fun cs1 =>
            optP (vs1[1]?) fun v5 =>
            dA v5 fun cs2 =>
            optP (vs1[2]?) fun v6 =>
            dI .i64 v6 fun x1 =>
            optP (vs1[3]?) fun v7 =>
            dI .i64 v7 fun x2 =>
            newP w5 #[(Value.int .i64 0), (Value.int .i64 0), (Value.int .i64 0), (Value.int .i64 0), (Value.int .i64 0), (Value.int .i64 0), (Value.int .i64 0), (Value.int .i64 0), (Value.int .i64 0), (Value.int .i64 0), (Value.int .i64 0), (Value.int .i64 0), (Value.int .i64 0), (Value.int .i64 0), (Value.int .i64 0), (Value.int .i64 0), (Value.slice none 0 0), (Value.slice none 0 0), (Value.slice none 0 0), (Value.slice none 0 0), (Value.slice none 0 0), (Value.slice none 0 0), (Value.slice none 0 0), (Value.slice none 0 0)] 32 fun b2 w7 =>
            newP w7 #[(Value.int .i64 0), (Value.int .i64 0)] 34 fun b3 w8 =>
            chk (decide (cs1.size = 24)) (
              Wr w8 (⟨b2, 0, none⟩ : Addr) cs1.toList ∧ ∀ w9, w9 = w8.setCells (⟨b2, 0, none⟩ : Addr).block (⟨b2, 0, none⟩ : Addr).off cs1.toList →
              (chk (decide (cs2.size = 2)) (
                  Wr w9 (⟨b3, 0, none⟩ : Addr) cs2.toList ∧ ∀ w10, w10 = w9.setCells (⟨b3, 0, none⟩ : Addr).block (⟨b3, 0, none⟩ : Addr).off cs2.toList →
                  (newP w10 #[(Value.int .i64 0), (Value.int .i64 0), (Value.int .i64 0), (Value.int .i64 0), (Value.int .i64 0), (Value.int .i64 0), (Value.int .i64 0), (Value.int .i64 0), (Value.int .i64 0), (Value.int .i64 0), (Value.int .i64 0), (Value.int .i64 0), (Value.int .i64 0), (Value.int .i64 0), (Value.int .i64 0), (Value.int .i64 0), (Value.slice none 0 0), (Value.slice none 0 0), (Value.slice none 0 0), (Value.slice none 0 0), (Value.slice none 0 0), (Value.slice none 0 0), (Value.slice none 0 0), (Value.slice none 0 0)] 32 fun b4 w11 =>
                    Wr w11 (⟨b4, 0, none⟩ : Addr) [(Value.int .i64 0), (Value.int .i64 0), (Value.int .i64 0), (Value.int .i64 0), (Value.int .i64 0), (Value.int .i64 0), (Value.int .i64 0), (Value.int .i64 0), (Value.int .i64 0), (Value.int .i64 0), (Value.int .i64 0), (Value.int .i64 0), (Value.int .i64 0), (Value.int .i64 0), (Value.int .i64 0), (Value.int .i64 0), (Value.slice none 0 0), (Value.slice none 0 0), (Value.slice none 0 0), (Value.slice none 0 0), (Value.slice none 0 0), (Value.slice none 0 0), (Value.slice none 0 0), (Value.slice none 0 0)] ∧ ∀ w12, w12 = w11.setCells (⟨b4, 0, none⟩ : Addr).block (⟨b4, 0, none⟩ : Addr).off [(Value.int .i64 0), (Value.int .i64 0), (Value.int .i64 0), (Value.int .i64 0), (Value.int .i64 0), (Value.int .i64 0), (Value.int .i64 0), (Value.int .i64 0), (Value.int .i64 0), (Value.int .i64 0), (Value.int .i64 0), (Value.int .i64 0), (Value.int .i64 0), (Value.int .i64 0), (Value.int .i64 0), (Value.int .i64 0), (Value.slice none 0 0), (Value.slice none 0 0), (Value.slice none 0 0), (Value.slice none 0 0), (Value.slice none 0 0), (Value.slice none 0 0), (Value.slice none 0 0), (Value.slice none 0 0)] →
                    (newP w12 #[(Value.int .i64 0), (Value.int .i64 0)] 34 fun b5 w13 =>
                      Wr w13 (⟨b5, 0, none⟩ : Addr) [(Value.int .i64 0), (Value.int .i64 0)] ∧ ∀ w14, w14 = w13.setCells (⟨b5, 0, none⟩ : Addr).block (⟨b5, 0, none⟩ : Addr).off [(Value.int .i64 0), (Value.int .i64 0)] →
                      (stopcocklaw14_SlateLoads.l1 p1 b2 b3 x1 x2 0 b4 b5 0 w14 R))))))) (fun ch w6 => R (.panicked ch) w6)))) (fun ch w4 => R (.panicked ch) w4)) (fun ch w2 => R (.panicked ch) w2)
abbrev stopcocklaw14_SlateLoads.C (a0p : Option Addr) (a0n : Nat) (a0c : Nat) (a1p : Option Addr) (a1n : Nat) (a1c : Nat) (w : World) (R : Ending → World → Prop) : Prop := Calls Try.prog 3 #[(Value.slice a0p a0n a0c), (Value.slice a1p a1n a1c)] w R
noncomputable def stopcocklaw14_SlateLoads.code : Code := (Try.f3.body).getD .skip
noncomputable def stopcocklaw14_SlateLoads.sk (R : Ending → World → Prop) : Sk := (.seq .leaf (.seq .leaf (.seq .leaf (.seq .leaf (.seq .leaf (.seq .leaf (.cut [(6, .blk), (7, .blk), (8, .int .i64), (9, .int .i64), (10, .int .i64), (11, .blk), (12, .blk)] (fun (t6 : Nat) (t7 : Nat) (t8 : Int) (t9 : Int) (t10 : Int) (t11 : Nat) (t12 : Nat) (w : World) => stopcocklaw14_SlateLoads.k1 t6 t7 t8 t9 t10 t11 t12 w R) (.seq .leaf (.block (.loop [(5, .ptr), (6, .blk), (7, .blk), (8, .int .i64), (9, .int .i64), (10, .int .i64), (11, .blk), (12, .blk), (13, .int .i64)] (fun (t5 : Option Addr) (t6 : Nat) (t7 : Nat) (t8 : Int) (t9 : Int) (t10 : Int) (t11 : Nat) (t12 : Nat) (t13 : Int) (w : World) => stopcocklaw14_SlateLoads.l1 t5 t6 t7 t8 t9 t10 t11 t12 t13 w R) (fun (C1 : Option Addr → Nat → Nat → Int → Int → Int → Nat → Nat → Int → World → Prop) => .leaf)))) .leaf)))))))
def stopcocklaw14_SlateLoads.owed (R : Ending → World → Prop) : Prop :=
  (∀ (t5 : Option Addr) (t6 : Nat) (t7 : Nat) (t8 : Int) (t9 : Int) (t10 : Int) (t11 : Nat) (t12 : Nat) (t13 : Int) (w : World), stopcocklaw14_SlateLoads.l1 t5 t6 t7 t8 t9 t10 t11 t12 t13 w R → stopcocklaw14_SlateLoads.l1 t5 t6 t7 t8 t9 t10 t11 t12 t13 w R) ∧ (∀ (C1 : Option Addr → Nat → Nat → Int → Int → Int → Nat → Nat → Int → World → Prop), True) ∧ (∀ (t6 : Nat) (t7 : Nat) (t8 : Int) (t9 : Int) (t10 : Int) (t11 : Nat) (t12 : Nat) (w : World), stopcocklaw14_SlateLoads.k1 t6 t7 t8 t9 t10 t11 t12 w R → stopcocklaw14_SlateLoads.k1 t6 t7 t8 t9 t10 t11 t12 w R) ∧ True
theorem stopcocklaw14_SlateLoads.pays (R : Ending → World → Prop) : stopcocklaw14_SlateLoads.owed R := ⟨(fun _ _ _ _ _ _ _ _ _ _ h => h), (fun _ => trivial), (fun _ _ _ _ _ _ _ _ h => h), trivial⟩
set_option maxRecDepth 100000 in
theorem stopcocklaw14_SlateLoads.ok {a0p : Option Addr} {a0n : Nat} {a0c : Nat} {a1p : Option Addr} {a1n : Nat} {a1c : Nat} {w : World} {R : Ending → World → Prop} (h : stopcocklaw14_SlateLoads.main a0p a0n a0c a1p a1n a1c w R) : stopcocklaw14_SlateLoads.C a0p a0n a0c a1p a1n a1c w R :=
  ev_ok cxok (c := cx) Try.func3 (code := stopcocklaw14_SlateLoads.code) (by kernel_rfl) [.tmp 4] (by kernel_rfl) 95 (by kernel_rfl) (stopcocklaw14_SlateLoads.sk R) (args := [(Value.slice a0p a0n a0c), (Value.slice a1p a1n a1c)]) (Nat.le_of_ble_eq_true rfl) (by kernel_rfl) (o := stopcocklaw14_SlateLoads.owed R) (by kernel_rfl) (stopcocklaw14_SlateLoads.pays R) h

/-! ### stopcock/stopcocklaw14.disk: function 4 -/
def stopcocklaw14_disk.b1 (t0p : Option Addr) (t0n : Nat) (t0c : Nat) (t1p : Option Addr) (t1n : Nat) (t1c : Nat) (t5 : Option Addr) (t7 : Int) (w : World) (R : Ending → World → Prop) (C1 : Option Addr → Nat → Nat → Option Addr → Nat → Nat → Option Addr → Int → World → Prop) : Prop :=
  cond (decide (t7 < 12)) (
    cond (decide (t7 < ((t0n : Nat) : Int))) (
      chk (decide (0 ≤ t7)) (
        chk (decide (t7 < ((t0n : Nat) : Int))) (
          optP t0p fun d1 =>
          ∃ (p2 : Option Addr) (n1 : Nat) (c1 : Nat), w.cell? (d1.add (t7.toNat * 1)) = some (Value.slice p2 n1 c1) ∧
          (cond (((n1 : Nat) : Int) == 64) (
              chk (decide (0 ≤ t7)) (
                chk (decide (t7 < ((t0n : Nat) : Int))) (
                  optP t0p fun d2 =>
                  ∃ (p3 : Option Addr) (n2 : Nat) (c2 : Nat), w.cell? (d2.add (t7.toNat * 1)) = some (Value.slice p3 n2 c2) ∧
                  (newP w #[(Value.int .i64 t7), (Value.slice p3 n2 c2)] 47 fun b1 w3 =>
                    callP Try.prog 11 #[(Value.pointer t5), (Value.slice (some ⟨b1, 0, none⟩) 1 1)] w3 (fun v4 w4 =>
                      dI .i64 v4 fun x2 =>
                      cond (x2 != 0) (
                        R (.returned (Value.pointer none)) w4) (
                        cond (decide (t7 < ((t1n : Nat) : Int))) (
                          chk (decide (0 ≤ t7)) (
                          chk (decide (t7 < ((t1n : Nat) : Int))) (
                          optP t1p fun d3 =>
                          ∃ (p4 : Option Addr) (n3 : Nat) (c3 : Nat), w4.cell? (d3.add (t7.toNat * 1)) = some (Value.slice p4 n3 c3) ∧
                          (cond (((n3 : Nat) : Int) == 64) (
                          chk (decide (0 ≤ t7)) (
                          chk (decide (t7 < ((t1n : Nat) : Int))) (
                          optP t1p fun d4 =>
                          ∃ (p5 : Option Addr) (n4 : Nat) (c4 : Nat), w4.cell? (d4.add (t7.toNat * 1)) = some (Value.slice p5 n4 c4) ∧
                          (newP w4 #[(Value.int .i64 (IntKind.i64.wrap (12 + t7))), (Value.slice p5 n4 c4)] 47 fun b2 w6 =>
                          callP Try.prog 11 #[(Value.pointer t5), (Value.slice (some ⟨b2, 0, none⟩) 1 1)] w6 (fun v5 w7 =>
                          dI .i64 v5 fun x3 =>
                          cond (x3 != 0) (
                          R (.returned (Value.pointer none)) w7) (
                          C1 t0p t0n t0c t1p t1n t1c t5 (IntKind.i64.wrap (t7 + 1)) w7)) (fun ch w8 => R (.panicked ch) w8))))) (
                          C1 t0p t0n t0c t1p t1n t1c t5 (IntKind.i64.wrap (t7 + 1)) w4))))) (
                          C1 t0p t0n t0c t1p t1n t1c t5 (IntKind.i64.wrap (t7 + 1)) w4))) (fun ch w5 => R (.panicked ch) w5))))) (
              cond (decide (t7 < ((t1n : Nat) : Int))) (
                chk (decide (0 ≤ t7)) (
                  chk (decide (t7 < ((t1n : Nat) : Int))) (
                    optP t1p fun d5 =>
                    ∃ (p6 : Option Addr) (n5 : Nat) (c5 : Nat), w.cell? (d5.add (t7.toNat * 1)) = some (Value.slice p6 n5 c5) ∧
                    (cond (((n5 : Nat) : Int) == 64) (
                        chk (decide (0 ≤ t7)) (
                          chk (decide (t7 < ((t1n : Nat) : Int))) (
                          optP t1p fun d6 =>
                          ∃ (p7 : Option Addr) (n6 : Nat) (c6 : Nat), w.cell? (d6.add (t7.toNat * 1)) = some (Value.slice p7 n6 c6) ∧
                          (newP w #[(Value.int .i64 (IntKind.i64.wrap (12 + t7))), (Value.slice p7 n6 c6)] 47 fun b3 w9 =>
                          callP Try.prog 11 #[(Value.pointer t5), (Value.slice (some ⟨b3, 0, none⟩) 1 1)] w9 (fun v6 w10 =>
                          dI .i64 v6 fun x4 =>
                          cond (x4 != 0) (
                          R (.returned (Value.pointer none)) w10) (
                          C1 t0p t0n t0c t1p t1n t1c t5 (IntKind.i64.wrap (t7 + 1)) w10)) (fun ch w11 => R (.panicked ch) w11))))) (
                        C1 t0p t0n t0c t1p t1n t1c t5 (IntKind.i64.wrap (t7 + 1)) w))))) (
                C1 t0p t0n t0c t1p t1n t1c t5 (IntKind.i64.wrap (t7 + 1)) w)))))) (
      cond (decide (t7 < ((t1n : Nat) : Int))) (
        chk (decide (0 ≤ t7)) (
          chk (decide (t7 < ((t1n : Nat) : Int))) (
            optP t1p fun d7 =>
            ∃ (p8 : Option Addr) (n7 : Nat) (c7 : Nat), w.cell? (d7.add (t7.toNat * 1)) = some (Value.slice p8 n7 c7) ∧
            (cond (((n7 : Nat) : Int) == 64) (
                chk (decide (0 ≤ t7)) (
                  chk (decide (t7 < ((t1n : Nat) : Int))) (
                    optP t1p fun d8 =>
                    ∃ (p9 : Option Addr) (n8 : Nat) (c8 : Nat), w.cell? (d8.add (t7.toNat * 1)) = some (Value.slice p9 n8 c8) ∧
                    (newP w #[(Value.int .i64 (IntKind.i64.wrap (12 + t7))), (Value.slice p9 n8 c8)] 47 fun b4 w12 =>
                      callP Try.prog 11 #[(Value.pointer t5), (Value.slice (some ⟨b4, 0, none⟩) 1 1)] w12 (fun v7 w13 =>
                        dI .i64 v7 fun x5 =>
                        cond (x5 != 0) (
                          R (.returned (Value.pointer none)) w13) (
                          C1 t0p t0n t0c t1p t1n t1c t5 (IntKind.i64.wrap (t7 + 1)) w13)) (fun ch w14 => R (.panicked ch) w14))))) (
                C1 t0p t0n t0c t1p t1n t1c t5 (IntKind.i64.wrap (t7 + 1)) w))))) (
        C1 t0p t0n t0c t1p t1n t1c t5 (IntKind.i64.wrap (t7 + 1)) w))) (
    R (.returned (Value.pointer t5)) w)
def stopcocklaw14_disk.l1 (t0p : Option Addr) (t0n : Nat) (t0c : Nat) (t1p : Option Addr) (t1n : Nat) (t1c : Nat) (t5 : Option Addr) (t7 : Int) (w : World) (R : Ending → World → Prop) : Prop :=
  ∃ (I : Option Addr → Nat → Nat → Option Addr → Nat → Nat → Option Addr → Int → World → Prop) (m : Option Addr → Nat → Nat → Option Addr → Nat → Nat → Option Addr → Int → World → Nat), I t0p t0n t0c t1p t1n t1c t5 t7 w ∧
  ∀ (t0p : Option Addr) (t0n : Nat) (t0c : Nat) (t1p : Option Addr) (t1n : Nat) (t1c : Nat) (t5 : Option Addr) (t7 : Int) (w : World), I t0p t0n t0c t1p t1n t1c t5 t7 w →
  stopcocklaw14_disk.b1 t0p t0n t0c t1p t1n t1c t5 t7 w R (fun t0p' t0n' t0c' t1p' t1n' t1c' t5' t7' w' => I t0p' t0n' t0c' t1p' t1n' t1c' t5' t7' w' ∧ m t0p' t0n' t0c' t1p' t1n' t1c' t5' t7' w' < m t0p t0n t0c t1p t1n t1c t5 t7 w)
def stopcocklaw14_disk.main (a0p : Option Addr) (a0n : Nat) (a0c : Nat) (a1p : Option Addr) (a1n : Nat) (a1c : Nat) (w : World) (R : Ending → World → Prop) : Prop :=
  callP Try.prog 10 #[(Value.int .i64 60)] w (fun v1 w1 =>
    dT v1 fun vs1 =>
    optP (vs1[0]?) fun v2 =>
    dP v2 fun p1 =>
    optP (vs1[1]?) fun v3 =>
    dI .i64 v3 fun x1 =>
    cond (x1 != 0) (
      R (.returned (Value.pointer none)) w1) (
      cond (Option.isNone p1) (
        R (.returned (Value.pointer none)) w1) (
        stopcocklaw14_disk.l1 a0p a0n a0c a1p a1n a1c p1 0 w1 R))) (fun ch w2 => R (.panicked ch) w2)
abbrev stopcocklaw14_disk.C (a0p : Option Addr) (a0n : Nat) (a0c : Nat) (a1p : Option Addr) (a1n : Nat) (a1c : Nat) (w : World) (R : Ending → World → Prop) : Prop := Calls Try.prog 4 #[(Value.slice a0p a0n a0c), (Value.slice a1p a1n a1c)] w R
noncomputable def stopcocklaw14_disk.code : Code := (Try.f4.body).getD .skip
noncomputable def stopcocklaw14_disk.sk (R : Ending → World → Prop) : Sk := (.seq .leaf (.seq .leaf (.seq .leaf (.seq (.seq .leaf (.block (.loop [(0, .slice), (1, .slice), (5, .ptr), (7, .int .i64)] (fun (t0p : Option Addr) (t0n : Nat) (t0c : Nat) (t1p : Option Addr) (t1n : Nat) (t1c : Nat) (t5 : Option Addr) (t7 : Int) (w : World) => stopcocklaw14_disk.l1 t0p t0n t0c t1p t1n t1c t5 t7 w R) (fun (C1 : Option Addr → Nat → Nat → Option Addr → Nat → Nat → Option Addr → Int → World → Prop) => .leaf)))) .leaf))))
def stopcocklaw14_disk.owed (R : Ending → World → Prop) : Prop :=
  (∀ (t0p : Option Addr) (t0n : Nat) (t0c : Nat) (t1p : Option Addr) (t1n : Nat) (t1c : Nat) (t5 : Option Addr) (t7 : Int) (w : World), stopcocklaw14_disk.l1 t0p t0n t0c t1p t1n t1c t5 t7 w R → stopcocklaw14_disk.l1 t0p t0n t0c t1p t1n t1c t5 t7 w R) ∧ (∀ (C1 : Option Addr → Nat → Nat → Option Addr → Nat → Nat → Option Addr → Int → World → Prop), True) ∧ True
theorem stopcocklaw14_disk.pays (R : Ending → World → Prop) : stopcocklaw14_disk.owed R := ⟨(fun _ _ _ _ _ _ _ _ _ h => h), (fun _ => trivial), trivial⟩
set_option maxRecDepth 100000 in
theorem stopcocklaw14_disk.ok {a0p : Option Addr} {a0n : Nat} {a0c : Nat} {a1p : Option Addr} {a1n : Nat} {a1c : Nat} {w : World} {R : Ending → World → Prop} (h : stopcocklaw14_disk.main a0p a0n a0c a1p a1n a1c w R) : stopcocklaw14_disk.C a0p a0n a0c a1p a1n a1c w R :=
  ev_ok cxok (c := cx) Try.func4 (code := stopcocklaw14_disk.code) (by kernel_rfl) [.tmp 4] (by kernel_rfl) 74 (by kernel_rfl) (stopcocklaw14_disk.sk R) (args := [(Value.slice a0p a0n a0c), (Value.slice a1p a1n a1c)]) (Nat.le_of_ble_eq_true rfl) (by kernel_rfl) (o := stopcocklaw14_disk.owed R) (by kernel_rfl) (stopcocklaw14_disk.pays R) h

/-! ### stopcock/stopcocklaw14.awake: function 5 -/
def stopcocklaw14_awake.main (w : World) (R : Ending → World → Prop) : Prop :=
  callP Try.prog 10 #[(Value.int .i64 60)] w (fun v1 w1 =>
    dT v1 fun vs1 =>
    optP (vs1[0]?) fun v2 =>
    dP v2 fun p1 =>
    optP (vs1[1]?) fun v3 =>
    dI .i64 v3 fun x1 =>
    callP Try.prog 12 #[(Value.pointer p1), (Value.agg #[(Value.int .i64 0), (Value.int .i64 0), (Value.int .i64 0), (Value.int .i64 0), (Value.int .i64 0), (Value.int .i64 0), (Value.int .i64 0), (Value.int .i64 0), (Value.int .i64 0), (Value.int .i64 0), (Value.int .i64 0), (Value.int .i64 0), (Value.int .i64 0), (Value.int .i64 0), (Value.int .i64 0), (Value.int .i64 0), (Value.slice none 0 0), (Value.slice none 0 0), (Value.slice none 0 0), (Value.slice none 0 0), (Value.slice none 0 0), (Value.slice none 0 0), (Value.slice none 0 0), (Value.slice none 0 0)]), (Value.agg #[(Value.int .i64 6), (Value.int .i64 2)]), (Value.int .i64 7)] w1 (fun v4 w3 =>
      dI .i64 v4 fun x2 =>
      callP Try.prog 6 #[(Value.pointer p1)] w3 (fun v5 w5 =>
        dT v5 fun vs2 =>
        optP (vs2[0]?) fun v6 =>
        dA v6 fun cs1 =>
        optP (vs2[1]?) fun v7 =>
        dA v7 fun cs2 =>
        optP (vs2[2]?) fun v8 =>
        dI .i64 v8 fun x3 =>
        optP (vs2[3]?) fun v9 =>
        dI .i64 v9 fun x4 =>
        newP w5 #[(Value.int .i64 0), (Value.int .i64 0), (Value.int .i64 0), (Value.int .i64 0), (Value.int .i64 0), (Value.int .i64 0), (Value.int .i64 0), (Value.int .i64 0), (Value.int .i64 0), (Value.int .i64 0), (Value.int .i64 0), (Value.int .i64 0), (Value.int .i64 0), (Value.int .i64 0), (Value.int .i64 0), (Value.int .i64 0), (Value.slice none 0 0), (Value.slice none 0 0), (Value.slice none 0 0), (Value.slice none 0 0), (Value.slice none 0 0), (Value.slice none 0 0), (Value.slice none 0 0), (Value.slice none 0 0)] 32 fun b1 w7 =>
        newP w7 #[(Value.int .i64 0), (Value.int .i64 0)] 34 fun b2 w8 =>
        chk (decide (cs1.size = 24)) (
          Wr w8 (⟨b1, 0, none⟩ : Addr) cs1.toList ∧ ∀ w9, w9 = w8.setCells (⟨b1, 0, none⟩ : Addr).block (⟨b1, 0, none⟩ : Addr).off cs1.toList →
          (chk (decide (cs2.size = 2)) (
              Wr w9 (⟨b2, 0, none⟩ : Addr) cs2.toList ∧ ∀ w10, w10 = w9.setCells (⟨b2, 0, none⟩ : Addr).block (⟨b2, 0, none⟩ : Addr).off cs2.toList →
              (cond (x1 == 0) (
                  cond (x2 == 0) (
                    cond (x4 == 0) (
                      ∃ (cs3 : Array Value), cs3.size = 24 ∧ CellsAt w10 (⟨b1, 0, none⟩ : Addr) cs3.toList ∧
                      (callP Try.prog 13 #[(Value.agg cs3)] w10 (fun v10 w11 =>
                          dB v10 fun b3 =>
                          cond b3 (
                          ∃ (x5 : Int), w11.cell? (⟨b2, 1, none⟩ : Addr) = some (Value.int .i64 x5) ∧
                          (cond (x5 == 2) (
                          R (.returned (Value.bool (x3 == 7))) w11) (
                          R (.returned (Value.bool false)) w11))) (
                          R (.returned (Value.bool false)) w11)) (fun ch w12 => R (.panicked ch) w12))) (
                      R (.returned (Value.bool false)) w10)) (
                    R (.returned (Value.bool false)) w10)) (
                  R (.returned (Value.bool false)) w10)))))) (fun ch w6 => R (.panicked ch) w6)) (fun ch w4 => R (.panicked ch) w4)) (fun ch w2 => R (.panicked ch) w2)
abbrev stopcocklaw14_awake.C (w : World) (R : Ending → World → Prop) : Prop := Calls Try.prog 5 #[] w R
noncomputable def stopcocklaw14_awake.code : Code := (Try.f5.body).getD .skip
noncomputable def stopcocklaw14_awake.sk (R : Ending → World → Prop) : Sk := .leaf
def stopcocklaw14_awake.owed (R : Ending → World → Prop) : Prop :=
  True
theorem stopcocklaw14_awake.pays (R : Ending → World → Prop) : stopcocklaw14_awake.owed R := trivial
set_option maxRecDepth 100000 in
theorem stopcocklaw14_awake.ok {w : World} {R : Ending → World → Prop} (h : stopcocklaw14_awake.main  w R) : stopcocklaw14_awake.C  w R :=
  ev_ok cxok (c := cx) Try.func5 (code := stopcocklaw14_awake.code) (by kernel_rfl) [.tmp 0] (by kernel_rfl) 46 (by kernel_rfl) (stopcocklaw14_awake.sk R) (args := []) (Nat.le_of_ble_eq_true rfl) (by kernel_rfl) (o := stopcocklaw14_awake.owed R) (by kernel_rfl) (stopcocklaw14_awake.pays R) h

/-! ### stopcock/slate.Load: function 6 -/
def slate_Load.k1 (t2 : Nat) (t3 : Nat) (t4 : Int) (w : World) (R : Ending → World → Prop) : Prop :=
  cond (t4 == 0) (
    ∃ (cs11 : Array Value), cs11.size = 24 ∧ CellsAt w.drew (⟨t2, 0, none⟩ : Addr) cs11.toList ∧
    (∃ (cs12 : Array Value), cs12.size = 2 ∧ CellsAt w.drew (⟨t3, 0, none⟩ : Addr) cs12.toList ∧
      (chk (decide (cs11.size = 24)) (
          Wr w.drew (⟨t2, 0, none⟩ : Addr) cs11.toList ∧ ∀ w19, w19 = w.drew.setCells (⟨t2, 0, none⟩ : Addr).block (⟨t2, 0, none⟩ : Addr).off cs11.toList →
          (chk (decide (cs12.size = 2)) (
              CellsAt w19 (⟨t3, 0, none⟩ : Addr) cs12.toList ∧
              (chk (decide (cs12.size = 2)) (
                  Wr w19 (⟨t3, 0, none⟩ : Addr) cs12.toList ∧ ∀ w20, w20 = w19.setCells (⟨t3, 0, none⟩ : Addr).block (⟨t3, 0, none⟩ : Addr).off cs12.toList →
                  (∃ (cs13 : Array Value), cs13.size = 24 ∧ CellsAt w20 (⟨t2, 0, none⟩ : Addr) cs13.toList ∧
                    (∃ (cs14 : Array Value), cs14.size = 2 ∧ CellsAt w20 (⟨t3, 0, none⟩ : Addr) cs14.toList ∧
                      (R (.returned (Value.tuple #[(Value.agg cs13), (Value.agg cs14), (Value.int .i64 0), (Value.int .i64 11)])) w20))))))))))) (
    ∃ (cs15 : Array Value), cs15.size = 24 ∧ CellsAt w.drew (⟨t2, 0, none⟩ : Addr) cs15.toList ∧
    (∃ (cs16 : Array Value), cs16.size = 2 ∧ CellsAt w.drew (⟨t3, 0, none⟩ : Addr) cs16.toList ∧
      (chk (decide (cs15.size = 24)) (
          Wr w.drew (⟨t2, 0, none⟩ : Addr) cs15.toList ∧ ∀ w21, w21 = w.drew.setCells (⟨t2, 0, none⟩ : Addr).block (⟨t2, 0, none⟩ : Addr).off cs15.toList →
          (chk (decide (cs16.size = 2)) (
              CellsAt w21 (⟨t3, 0, none⟩ : Addr) cs16.toList ∧
              (chk (decide (cs16.size = 2)) (
                  Wr w21 (⟨t3, 0, none⟩ : Addr) cs16.toList ∧ ∀ w22, w22 = w21.setCells (⟨t3, 0, none⟩ : Addr).block (⟨t3, 0, none⟩ : Addr).off cs16.toList →
                  (∃ (cs17 : Array Value), cs17.size = 24 ∧ CellsAt w22 (⟨t2, 0, none⟩ : Addr) cs17.toList ∧
                    (∃ (cs18 : Array Value), cs18.size = 2 ∧ CellsAt w22 (⟨t3, 0, none⟩ : Addr) cs18.toList ∧
                      (R (.returned (Value.tuple #[(Value.agg cs17), (Value.agg cs18), (Value.int .i64 t4), (Value.int .i64 0)])) w22)))))))))))
def slate_Load.b1 (t0 : Option Addr) (t2 : Nat) (t3 : Nat) (t4 : Int) (t17 : Int) (w : World) (R : Ending → World → Prop) (C1 : Option Addr → Nat → Nat → Int → Int → World → Prop) : Prop :=
  cond (decide (t17 < 2)) (
    callP Try.prog 15 #[(Value.int .i64 t17)] w (fun v1 w5 =>
      dI .i64 v1 fun x1 =>
      callP Try.prog 14 #[(Value.pointer t0), (Value.int .i64 x1)] w5 (fun v2 w7 =>
        dT v2 fun vs1 =>
        optP (vs1[0]?) fun v3 =>
        dS v3 fun p1 n1 c1 =>
        optP (vs1[1]?) fun v4 =>
        dI .i64 v4 fun x2 =>
        cond (x2 == 10) (
          Wr w7 (⟨t2, 0, none⟩ : Addr) [(Value.int .i64 0), (Value.int .i64 0), (Value.int .i64 0), (Value.int .i64 0), (Value.int .i64 0), (Value.int .i64 0), (Value.int .i64 0), (Value.int .i64 0), (Value.int .i64 0), (Value.int .i64 0), (Value.int .i64 0), (Value.int .i64 0), (Value.int .i64 0), (Value.int .i64 0), (Value.int .i64 0), (Value.int .i64 0), (Value.slice none 0 0), (Value.slice none 0 0), (Value.slice none 0 0), (Value.slice none 0 0), (Value.slice none 0 0), (Value.slice none 0 0), (Value.slice none 0 0), (Value.slice none 0 0)] ∧ ∀ w9, w9 = w7.setCells (⟨t2, 0, none⟩ : Addr).block (⟨t2, 0, none⟩ : Addr).off [(Value.int .i64 0), (Value.int .i64 0), (Value.int .i64 0), (Value.int .i64 0), (Value.int .i64 0), (Value.int .i64 0), (Value.int .i64 0), (Value.int .i64 0), (Value.int .i64 0), (Value.int .i64 0), (Value.int .i64 0), (Value.int .i64 0), (Value.int .i64 0), (Value.int .i64 0), (Value.int .i64 0), (Value.int .i64 0), (Value.slice none 0 0), (Value.slice none 0 0), (Value.slice none 0 0), (Value.slice none 0 0), (Value.slice none 0 0), (Value.slice none 0 0), (Value.slice none 0 0), (Value.slice none 0 0)] →
          (Wr w9 (⟨t3, 0, none⟩ : Addr) [(Value.int .i64 0), (Value.int .i64 0)] ∧ ∀ w10, w10 = w9.setCells (⟨t3, 0, none⟩ : Addr).block (⟨t3, 0, none⟩ : Addr).off [(Value.int .i64 0), (Value.int .i64 0)] →
            (∃ (cs5 : Array Value), cs5.size = 24 ∧ CellsAt w10 (⟨t2, 0, none⟩ : Addr) cs5.toList ∧
              (∃ (cs6 : Array Value), cs6.size = 2 ∧ CellsAt w10 (⟨t3, 0, none⟩ : Addr) cs6.toList ∧
                (R (.returned (Value.tuple #[(Value.agg cs5), (Value.agg cs6), (Value.int .i64 0), (Value.int .i64 x2)])) w10))))) (
          callP Try.prog 16 #[(Value.slice p1 n1 c1)] w7 (fun v5 w11 =>
            dT v5 fun vs2 =>
            optP (vs2[0]?) fun v6 =>
            dA v6 fun cs7 =>
            optP (vs2[1]?) fun v7 =>
            dA v7 fun cs8 =>
            optP (vs2[2]?) fun v8 =>
            dI .i64 v8 fun x3 =>
            optP (vs2[3]?) fun v9 =>
            dI .i64 v9 fun x4 =>
            newP w11 #[(Value.int .i64 0), (Value.int .i64 0), (Value.int .i64 0), (Value.int .i64 0), (Value.int .i64 0), (Value.int .i64 0), (Value.int .i64 0), (Value.int .i64 0), (Value.int .i64 0), (Value.int .i64 0), (Value.int .i64 0), (Value.int .i64 0), (Value.int .i64 0), (Value.int .i64 0), (Value.int .i64 0), (Value.int .i64 0), (Value.slice none 0 0), (Value.slice none 0 0), (Value.slice none 0 0), (Value.slice none 0 0), (Value.slice none 0 0), (Value.slice none 0 0), (Value.slice none 0 0), (Value.slice none 0 0)] 32 fun b3 w13 =>
            newP w13 #[(Value.int .i64 0), (Value.int .i64 0)] 34 fun b4 w14 =>
            chk (decide (cs7.size = 24)) (
              Wr w14 (⟨b3, 0, none⟩ : Addr) cs7.toList ∧ ∀ w15, w15 = w14.setCells (⟨b3, 0, none⟩ : Addr).block (⟨b3, 0, none⟩ : Addr).off cs7.toList →
              (chk (decide (cs8.size = 2)) (
                  Wr w15 (⟨b4, 0, none⟩ : Addr) cs8.toList ∧ ∀ w16, w16 = w15.setCells (⟨b4, 0, none⟩ : Addr).block (⟨b4, 0, none⟩ : Addr).off cs8.toList →
                  (cond (x4 == 0) (
                      cond (decide (x3 > t4)) (
                        ∃ (cs9 : Array Value), cs9.size = 24 ∧ CellsAt w16.drew (⟨b3, 0, none⟩ : Addr) cs9.toList ∧
                        (∃ (cs10 : Array Value), cs10.size = 2 ∧ CellsAt w16.drew (⟨b4, 0, none⟩ : Addr) cs10.toList ∧
                          (chk (decide (cs9.size = 24)) (
                          Wr w16.drew (⟨t2, 0, none⟩ : Addr) cs9.toList ∧ ∀ w17, w17 = w16.drew.setCells (⟨t2, 0, none⟩ : Addr).block (⟨t2, 0, none⟩ : Addr).off cs9.toList →
                          (chk (decide (cs10.size = 2)) (
                          CellsAt w17 (⟨b4, 0, none⟩ : Addr) cs10.toList ∧
                          (chk (decide (cs10.size = 2)) (
                          Wr w17 (⟨t3, 0, none⟩ : Addr) cs10.toList ∧ ∀ w18, w18 = w17.setCells (⟨t3, 0, none⟩ : Addr).block (⟨t3, 0, none⟩ : Addr).off cs10.toList →
                          (C1 t0 t2 t3 x3 (IntKind.i64.wrap (t17 + 1)) w18))))))))) (
                        C1 t0 t2 t3 t4 (IntKind.i64.wrap (t17 + 1)) w16)) (
                      C1 t0 t2 t3 t4 (IntKind.i64.wrap (t17 + 1)) w16)))))) (fun ch w12 => R (.panicked ch) w12))) (fun ch w8 => R (.panicked ch) w8)) (fun ch w6 => R (.panicked ch) w6)) (
    slate_Load.k1 t2 t3 t4 w R)
def slate_Load.l1 (t0 : Option Addr) (t2 : Nat) (t3 : Nat) (t4 : Int) (t17 : Int) (w : World) (R : Ending → World → Prop) : Prop :=
  ∃ (I : Option Addr → Nat → Nat → Int → Int → World → Prop) (m : Option Addr → Nat → Nat → Int → Int → World → Nat), I t0 t2 t3 t4 t17 w ∧
  ∀ (t0 : Option Addr) (t2 : Nat) (t3 : Nat) (t4 : Int) (t17 : Int) (w : World), I t0 t2 t3 t4 t17 w →
  slate_Load.b1 t0 t2 t3 t4 t17 w R (fun t0' t2' t3' t4' t17' w' => I t0' t2' t3' t4' t17' w' ∧ m t0' t2' t3' t4' t17' w' < m t0 t2 t3 t4 t17 w)
def slate_Load.main (a0 : Option Addr) (w : World) (R : Ending → World → Prop) : Prop :=
  newP w #[(Value.int .i64 0), (Value.int .i64 0), (Value.int .i64 0), (Value.int .i64 0), (Value.int .i64 0), (Value.int .i64 0), (Value.int .i64 0), (Value.int .i64 0), (Value.int .i64 0), (Value.int .i64 0), (Value.int .i64 0), (Value.int .i64 0), (Value.int .i64 0), (Value.int .i64 0), (Value.int .i64 0), (Value.int .i64 0), (Value.slice none 0 0), (Value.slice none 0 0), (Value.slice none 0 0), (Value.slice none 0 0), (Value.slice none 0 0), (Value.slice none 0 0), (Value.slice none 0 0), (Value.slice none 0 0)] 32 fun b1 w1 =>
  newP w1 #[(Value.int .i64 0), (Value.int .i64 0)] 34 fun b2 w2 =>
  cond (Option.isNone a0) (
    ∃ (cs1 : Array Value), cs1.size = 24 ∧ CellsAt w2.drew (⟨b1, 0, none⟩ : Addr) cs1.toList ∧
    (∃ (cs2 : Array Value), cs2.size = 2 ∧ CellsAt w2.drew (⟨b2, 0, none⟩ : Addr) cs2.toList ∧
      (chk (decide (cs1.size = 24)) (
          Wr w2.drew (⟨b1, 0, none⟩ : Addr) cs1.toList ∧ ∀ w3, w3 = w2.drew.setCells (⟨b1, 0, none⟩ : Addr).block (⟨b1, 0, none⟩ : Addr).off cs1.toList →
          (chk (decide (cs2.size = 2)) (
              CellsAt w3 (⟨b2, 0, none⟩ : Addr) cs2.toList ∧
              (chk (decide (cs2.size = 2)) (
                  Wr w3 (⟨b2, 0, none⟩ : Addr) cs2.toList ∧ ∀ w4, w4 = w3.setCells (⟨b2, 0, none⟩ : Addr).block (⟨b2, 0, none⟩ : Addr).off cs2.toList →
                  (∃ (cs3 : Array Value), cs3.size = 24 ∧ CellsAt w4 (⟨b1, 0, none⟩ : Addr) cs3.toList ∧
                    (∃ (cs4 : Array Value), cs4.size = 2 ∧ CellsAt w4 (⟨b2, 0, none⟩ : Addr) cs4.toList ∧
                      (R (.returned (Value.tuple #[(Value.agg cs3), (Value.agg cs4), (Value.int .i64 0), (Value.int .i64 1)])) w4))))))))))) (
    slate_Load.l1 a0 b1 b2 0 0 w2 R)
abbrev slate_Load.C (a0 : Option Addr) (w : World) (R : Ending → World → Prop) : Prop := Calls Try.prog 6 #[(Value.pointer a0)] w R
noncomputable def slate_Load.code : Code := (Try.f6.body).getD .skip
noncomputable def slate_Load.sk (R : Ending → World → Prop) : Sk := (.seq .leaf (.seq .leaf (.cut [(2, .blk), (3, .blk), (4, .int .i64)] (fun (t2 : Nat) (t3 : Nat) (t4 : Int) (w : World) => slate_Load.k1 t2 t3 t4 w R) (.seq .leaf (.block (.loop [(0, .ptr), (2, .blk), (3, .blk), (4, .int .i64), (17, .int .i64)] (fun (t0 : Option Addr) (t2 : Nat) (t3 : Nat) (t4 : Int) (t17 : Int) (w : World) => slate_Load.l1 t0 t2 t3 t4 t17 w R) (fun (C1 : Option Addr → Nat → Nat → Int → Int → World → Prop) => .leaf)))) .leaf)))
def slate_Load.owed (R : Ending → World → Prop) : Prop :=
  (∀ (t0 : Option Addr) (t2 : Nat) (t3 : Nat) (t4 : Int) (t17 : Int) (w : World), slate_Load.l1 t0 t2 t3 t4 t17 w R → slate_Load.l1 t0 t2 t3 t4 t17 w R) ∧ (∀ (C1 : Option Addr → Nat → Nat → Int → Int → World → Prop), True) ∧ (∀ (t2 : Nat) (t3 : Nat) (t4 : Int) (w : World), slate_Load.k1 t2 t3 t4 w R → slate_Load.k1 t2 t3 t4 w R) ∧ True
theorem slate_Load.pays (R : Ending → World → Prop) : slate_Load.owed R := ⟨(fun _ _ _ _ _ _ h => h), (fun _ => trivial), (fun _ _ _ _ h => h), trivial⟩
set_option maxRecDepth 100000 in
theorem slate_Load.ok {a0 : Option Addr} {w : World} {R : Ending → World → Prop} (h : slate_Load.main a0 w R) : slate_Load.C a0 w R :=
  ev_ok cxok (c := cx) Try.func6 (code := slate_Load.code) (by kernel_rfl) [.cell 2 32, .cell 3 34, .tmp 4, .tmp 5] (by kernel_rfl) 57 (by kernel_rfl) (slate_Load.sk R) (args := [(Value.pointer a0)]) (Nat.le_of_ble_eq_true rfl) (by kernel_rfl) (o := slate_Load.owed R) (by kernel_rfl) (slate_Load.pays R) h

/-! ### stopcock/stopcockref13.Decode: function 7 -/
def stopcockref13_Decode.k1 (t0p : Option Addr) (t0n : Nat) (t0c : Nat) (t2 : Nat) (t3 : Nat) (t6 : Nat) (t7p : Option Addr) (t7n : Nat) (t7c : Nat) (t8 : Int) (t9p : Option Addr) (t9n : Nat) (t9c : Nat) (t59 : Bool) (w : World) (R : Ending → World → Prop) (C1 : Option Addr → Nat → Nat → Nat → Nat → Nat → Option Addr → Nat → Nat → Int → World → Prop) : Prop :=
  cond t59 (
    chk (decide (5 < ((t9n : Nat) : Int))) (
      optP t9p fun d3 =>
      ∃ (x3 : Int), w.cell? (d3.add 5) = some (Value.int .u8 x3) ∧
      (chk (decide (0 ≤ (IntKind.i64.wrap (6 + (IntKind.i64.wrap x3))))) (
          chk (decide ((IntKind.i64.wrap (6 + (IntKind.i64.wrap x3))) ≤ ((t9c : Nat) : Int))) (
            chk (decide (6 ≤ (((IntKind.i64.wrap (6 + (IntKind.i64.wrap x3))).toNat : Nat) : Int))) (
              appP w t7p t7n t7c ((IntKind.i64.wrap (6 + (IntKind.i64.wrap x3))).toNat - 6) (CellsO w (slA t9p t9c 6 1)) 5 1 1 #[(Value.int .u8 0)] fun p3 c3 w14 =>
              C1 t0p t0n t0c t2 t3 t6 p3 (t7n + ((IntKind.i64.wrap (6 + (IntKind.i64.wrap x3))).toNat - 6)) c3 (IntKind.i64.wrap (t8 + 1)) w14)))))) (
    C1 t0p t0n t0c t2 t3 t6 t7p t7n t7c (IntKind.i64.wrap (t8 + 1)) w)
def stopcockref13_Decode.k4 (t0p : Option Addr) (t0n : Nat) (t0c : Nat) (t2 : Nat) (t3 : Nat) (t6 : Nat) (t7p : Option Addr) (t7n : Nat) (t7c : Nat) (t11 : Nat) (t12 : Nat) (t13 : Int) (t14 : Int) (t15 : Int) (t17r : Nat) (t17m : Nat) (t82 : Int) (t83 : Int) (t84p : Option Addr) (t84n : Nat) (t84c : Nat) (t85 : Int) (t86 : Bool) (t115 : Int) (t116 : Int) (t117p : Option Addr) (t117n : Nat) (t117c : Nat) (t118 : Int) (t119 : Bool) (w : World) (R : Ending → World → Prop) (C2 : Option Addr → Nat → Nat → Nat → Nat → Nat → Option Addr → Nat → Nat → Nat → Nat → Int → Int → World → Prop) (C3 : Option Addr → Nat → Nat → Nat → Nat → Nat → Option Addr → Nat → Nat → Nat → Nat → Int → Int → Int → Int → Int → Option Addr → Nat → Nat → Int → Bool → World → Prop) : Prop :=
  chk (decide (0 ≤ t14)) (
    chk (decide (t14 < (8 : Int))) (
      ∃ (p6 : Option Addr) (n5 : Nat) (c6 : Nat), w.cell? ((⟨t12, 16, none⟩ : Addr).add (t14.toNat * 1)) = some (Value.slice p6 n5 c6) ∧
      (newP w #[(Value.complex .f64 t17r t17m)] 56 fun b9 w38 =>
        appP w38 p6 n5 c6 1 (CellsO w38 (some ⟨b9, 0, none⟩)) 56 1 16 #[(Value.complex .f64 0 0)] fun p7 c7 w39 =>
        chk (decide (0 ≤ t14)) (
          chk (decide (t14 < (8 : Int))) (
            (w39.cell? ((⟨t12, 16, none⟩ : Addr).add (t14.toNat * 1))).isSome = true ∧ w39.frozen? ((⟨t12, 16, none⟩ : Addr).add (t14.toNat * 1)) = false ∧ ∀ w40, w40 = w39.setCell ((⟨t12, 16, none⟩ : Addr).add (t14.toNat * 1)) (Value.slice p7 (n5 + 1) c7) →
            (C3 t0p t0n t0c t2 t3 t6 t7p t7n t7c t11 t12 (IntKind.i64.wrap (t13 + 2)) t14 (IntKind.i64.wrap (t15 + 1)) t82 t83 t84p t84n t84c t85 t86 w40))))))
def stopcockref13_Decode.b3 (t0p : Option Addr) (t0n : Nat) (t0c : Nat) (t2 : Nat) (t3 : Nat) (t6 : Nat) (t7p : Option Addr) (t7n : Nat) (t7c : Nat) (t11 : Nat) (t12 : Nat) (t13 : Int) (t14 : Int) (t15 : Int) (t82 : Int) (t83 : Int) (t84p : Option Addr) (t84n : Nat) (t84c : Nat) (t85 : Int) (t86 : Bool) (w : World) (R : Ending → World → Prop) (C2 : Option Addr → Nat → Nat → Nat → Nat → Nat → Option Addr → Nat → Nat → Nat → Nat → Int → Int → World → Prop) (C3 : Option Addr → Nat → Nat → Nat → Nat → Nat → Option Addr → Nat → Nat → Nat → Nat → Int → Int → Int → Int → Int → Option Addr → Nat → Nat → Int → Bool → World → Prop) : Prop :=
  chk (decide (0 ≤ t14)) (
    chk (decide (t14 < (8 : Int))) (
      ∃ (x11 : Int), w.cell? (((⟨t12, 0, none⟩ : Addr).add (t14.toNat * 2)).add 1) = some (Value.int .i64 x11) ∧
      (cond (decide (t15 < x11)) (
          cond (decide ((IntKind.i64.wrap (t13 + 2)) ≤ ((t7n : Nat) : Int))) (
            callP Try.prog 18 #[(Value.slice t7p t7n t7c), (Value.int .i64 t13), (Value.int .i64 2)] w (fun v9 w34 =>
              dI .i64 v9 fun x12 =>
              cond (decide (x12 > 0)) (
                ∃ (x13 : Int), w34.cell? (⟨t11, 1, none⟩ : Addr) = some (Value.int .i64 x13) ∧
                (callP Try.prog 19 #[(Value.int .i64 (IntKind.i64.wrap (x12 - 1))), (Value.int .i64 x13)] w34 (fun v10 w36 =>
                    dT v10 fun vs2 =>
                    optP (vs2[0]?) fun v11 =>
                    dC v11 fun r1 m1 =>
                    optP (vs2[1]?) fun v12 =>
                    dI .i64 v12 fun x14 =>
                    stopcockref13_Decode.k4 t0p t0n t0c t2 t3 t6 t7p t7n t7c t11 t12 t13 t14 t15 r1 m1 t82 t83 t84p t84n t84c t85 t86 t13 (IntKind.i64.wrap (t13 + 2)) t7p t7n t7c ((t7n : Nat) : Int) (decide ((IntKind.i64.wrap (t13 + 2)) ≤ ((t7n : Nat) : Int))) w36 R C2 C3) (fun ch w37 => R (.panicked ch) w37))) (
                stopcockref13_Decode.k4 t0p t0n t0c t2 t3 t6 t7p t7n t7c t11 t12 t13 t14 t15 13830554455654793216 0 t82 t83 t84p t84n t84c t85 t86 t13 (IntKind.i64.wrap (t13 + 2)) t7p t7n t7c ((t7n : Nat) : Int) (decide ((IntKind.i64.wrap (t13 + 2)) ≤ ((t7n : Nat) : Int))) w34 R C2 C3)) (fun ch w35 => R (.panicked ch) w35)) (
            C2 t0p t0n t0c t2 t3 t6 t7p t7n t7c t11 t12 t13 (IntKind.i64.wrap (t14 + 1)) w)) (
          C2 t0p t0n t0c t2 t3 t6 t7p t7n t7c t11 t12 t13 (IntKind.i64.wrap (t14 + 1)) w))))
def stopcockref13_Decode.l3 (t0p : Option Addr) (t0n : Nat) (t0c : Nat) (t2 : Nat) (t3 : Nat) (t6 : Nat) (t7p : Option Addr) (t7n : Nat) (t7c : Nat) (t11 : Nat) (t12 : Nat) (t13 : Int) (t14 : Int) (t15 : Int) (t82 : Int) (t83 : Int) (t84p : Option Addr) (t84n : Nat) (t84c : Nat) (t85 : Int) (t86 : Bool) (w : World) (R : Ending → World → Prop) (C2 : Option Addr → Nat → Nat → Nat → Nat → Nat → Option Addr → Nat → Nat → Nat → Nat → Int → Int → World → Prop) : Prop :=
  ∃ (I : Option Addr → Nat → Nat → Nat → Nat → Nat → Option Addr → Nat → Nat → Nat → Nat → Int → Int → Int → Int → Int → Option Addr → Nat → Nat → Int → Bool → World → Prop) (m : Option Addr → Nat → Nat → Nat → Nat → Nat → Option Addr → Nat → Nat → Nat → Nat → Int → Int → Int → Int → Int → Option Addr → Nat → Nat → Int → Bool → World → Nat), I t0p t0n t0c t2 t3 t6 t7p t7n t7c t11 t12 t13 t14 t15 t82 t83 t84p t84n t84c t85 t86 w ∧
  ∀ (t0p : Option Addr) (t0n : Nat) (t0c : Nat) (t2 : Nat) (t3 : Nat) (t6 : Nat) (t7p : Option Addr) (t7n : Nat) (t7c : Nat) (t11 : Nat) (t12 : Nat) (t13 : Int) (t14 : Int) (t15 : Int) (t82 : Int) (t83 : Int) (t84p : Option Addr) (t84n : Nat) (t84c : Nat) (t85 : Int) (t86 : Bool) (w : World), I t0p t0n t0c t2 t3 t6 t7p t7n t7c t11 t12 t13 t14 t15 t82 t83 t84p t84n t84c t85 t86 w →
  stopcockref13_Decode.b3 t0p t0n t0c t2 t3 t6 t7p t7n t7c t11 t12 t13 t14 t15 t82 t83 t84p t84n t84c t85 t86 w R C2 (fun t0p' t0n' t0c' t2' t3' t6' t7p' t7n' t7c' t11' t12' t13' t14' t15' t82' t83' t84p' t84n' t84c' t85' t86' w' => I t0p' t0n' t0c' t2' t3' t6' t7p' t7n' t7c' t11' t12' t13' t14' t15' t82' t83' t84p' t84n' t84c' t85' t86' w' ∧ m t0p' t0n' t0c' t2' t3' t6' t7p' t7n' t7c' t11' t12' t13' t14' t15' t82' t83' t84p' t84n' t84c' t85' t86' w' < m t0p t0n t0c t2 t3 t6 t7p t7n t7c t11 t12 t13 t14 t15 t82 t83 t84p t84n t84c t85 t86 w)
def stopcockref13_Decode.k6 (t2 : Nat) (t3 : Nat) (t11 : Nat) (t12 : Nat) (t18 : Int) (w : World) (R : Ending → World → Prop) : Prop :=
  ∃ (cs21 : Array Value), cs21.size = 24 ∧ CellsAt w.drew (⟨t12, 0, none⟩ : Addr) cs21.toList ∧
  (∃ (cs22 : Array Value), cs22.size = 2 ∧ CellsAt w.drew (⟨t11, 0, none⟩ : Addr) cs22.toList ∧
    (chk (decide (cs21.size = 24)) (
        Wr w.drew (⟨t2, 0, none⟩ : Addr) cs21.toList ∧ ∀ w51, w51 = w.drew.setCells (⟨t2, 0, none⟩ : Addr).block (⟨t2, 0, none⟩ : Addr).off cs21.toList →
        (chk (decide (cs22.size = 2)) (
            CellsAt w51 (⟨t11, 0, none⟩ : Addr) cs22.toList ∧
            (chk (decide (cs22.size = 2)) (
                Wr w51 (⟨t3, 0, none⟩ : Addr) cs22.toList ∧ ∀ w52, w52 = w51.setCells (⟨t3, 0, none⟩ : Addr).block (⟨t3, 0, none⟩ : Addr).off cs22.toList →
                (∃ (cs23 : Array Value), cs23.size = 24 ∧ CellsAt w52 (⟨t2, 0, none⟩ : Addr) cs23.toList ∧
                  (∃ (cs24 : Array Value), cs24.size = 2 ∧ CellsAt w52 (⟨t3, 0, none⟩ : Addr) cs24.toList ∧
                    (R (.returned (Value.tuple #[(Value.agg cs23), (Value.agg cs24), (Value.int .i64 t18), (Value.int .i64 0)])) w52))))))))))
def stopcockref13_Decode.b4 (t0p : Option Addr) (t0n : Nat) (t0c : Nat) (t2 : Nat) (t3 : Nat) (t6 : Nat) (t11 : Nat) (t12 : Nat) (t18 : Int) (t19p : Option Addr) (t19n : Nat) (t19c : Nat) (t21 : Int) (w : World) (R : Ending → World → Prop) (C4 : Option Addr → Nat → Nat → Nat → Nat → Nat → Nat → Nat → Int → Option Addr → Nat → Nat → Int → World → Prop) : Prop :=
  cond (decide (t21 < ((t19n : Nat) : Int))) (
    chk (decide (0 ≤ t21)) (
      chk (decide (t21 < ((t19n : Nat) : Int))) (
        optP t19p fun d9 =>
        ∃ (p10 : Option Addr) (n8 : Nat) (c10 : Nat), w.cell? (d9.add (t21.toNat * 1)) = some (Value.slice p10 n8 c10) ∧
        (∃ (ns1 : List Int), ns1.length = n8 ∧ CellsO w p10 (ns1.map (Value.int .u8)) ∧
          (chk (decide (0 ≤ t21)) (
              chk (decide (t21 < ((t0n : Nat) : Int))) (
                optP t0p fun d10 =>
                ∃ (p11 : Option Addr) (n9 : Nat) (c11 : Nat), w.cell? (d10.add (t21.toNat * 1)) = some (Value.slice p11 n9 c11) ∧
                (∃ (ns2 : List Int), ns2.length = n9 ∧ CellsO w p11 (ns2.map (Value.int .u8)) ∧
                  (∀ k1 : Nat,
                    cond (!((strOf ns1).toList == (strOf ns2).toList)) (
                      ∃ (cs18 : Array Value), cs18.size = 24 ∧ CellsAt (w.drewN k1) (⟨t6, 0, none⟩ : Addr) cs18.toList ∧
                      (chk (decide (cs18.size = 24)) (
                          Wr (w.drewN k1) (⟨t2, 0, none⟩ : Addr) cs18.toList ∧ ∀ w49, w49 = (w.drewN k1).setCells (⟨t2, 0, none⟩ : Addr).block (⟨t2, 0, none⟩ : Addr).off cs18.toList →
                          (Wr w49 (⟨t3, 0, none⟩ : Addr) [(Value.int .i64 0), (Value.int .i64 0)] ∧ ∀ w50, w50 = w49.setCells (⟨t3, 0, none⟩ : Addr).block (⟨t3, 0, none⟩ : Addr).off [(Value.int .i64 0), (Value.int .i64 0)] →
                          (∃ (cs19 : Array Value), cs19.size = 24 ∧ CellsAt w50 (⟨t2, 0, none⟩ : Addr) cs19.toList ∧
                          (∃ (cs20 : Array Value), cs20.size = 2 ∧ CellsAt w50 (⟨t3, 0, none⟩ : Addr) cs20.toList ∧
                          (R (.returned (Value.tuple #[(Value.agg cs19), (Value.agg cs20), (Value.int .i64 0), (Value.int .i64 11)])) w50))))))) (
                      C4 t0p t0n t0c t2 t3 t6 t11 t12 t18 t19p t19n t19c (IntKind.i64.wrap (t21 + 1)) (w.drewN k1))))))))))) (
    stopcockref13_Decode.k6 t2 t3 t11 t12 t18 w R)
def stopcockref13_Decode.l4 (t0p : Option Addr) (t0n : Nat) (t0c : Nat) (t2 : Nat) (t3 : Nat) (t6 : Nat) (t11 : Nat) (t12 : Nat) (t18 : Int) (t19p : Option Addr) (t19n : Nat) (t19c : Nat) (t21 : Int) (w : World) (R : Ending → World → Prop) : Prop :=
  ∃ (I : Option Addr → Nat → Nat → Nat → Nat → Nat → Nat → Nat → Int → Option Addr → Nat → Nat → Int → World → Prop) (m : Option Addr → Nat → Nat → Nat → Nat → Nat → Nat → Nat → Int → Option Addr → Nat → Nat → Int → World → Nat), I t0p t0n t0c t2 t3 t6 t11 t12 t18 t19p t19n t19c t21 w ∧
  ∀ (t0p : Option Addr) (t0n : Nat) (t0c : Nat) (t2 : Nat) (t3 : Nat) (t6 : Nat) (t11 : Nat) (t12 : Nat) (t18 : Int) (t19p : Option Addr) (t19n : Nat) (t19c : Nat) (t21 : Int) (w : World), I t0p t0n t0c t2 t3 t6 t11 t12 t18 t19p t19n t19c t21 w →
  stopcockref13_Decode.b4 t0p t0n t0c t2 t3 t6 t11 t12 t18 t19p t19n t19c t21 w R (fun t0p' t0n' t0c' t2' t3' t6' t11' t12' t18' t19p' t19n' t19c' t21' w' => I t0p' t0n' t0c' t2' t3' t6' t11' t12' t18' t19p' t19n' t19c' t21' w' ∧ m t0p' t0n' t0c' t2' t3' t6' t11' t12' t18' t19p' t19n' t19c' t21' w' < m t0p t0n t0c t2 t3 t6 t11 t12 t18 t19p t19n t19c t21 w)
def stopcockref13_Decode.k5 (t0p : Option Addr) (t0n : Nat) (t0c : Nat) (t2 : Nat) (t3 : Nat) (t6 : Nat) (t11 : Nat) (t12 : Nat) (w : World) (R : Ending → World → Prop) : Prop :=
  chk (decide (0 < ((t0n : Nat) : Int))) (
    optP t0p fun d8 =>
    ∃ (p8 : Option Addr) (n6 : Nat) (c8 : Nat), w.cell? d8 = some (Value.slice p8 n6 c8) ∧
    (callP Try.prog 18 #[(Value.slice p8 n6 c8), (Value.int .i64 4), (Value.int .i64 4)] w (fun v13 w41 =>
        dI .i64 v13 fun x15 =>
        ∃ (cs10 : Array Value), cs10.size = 24 ∧ CellsAt w41 (⟨t12, 0, none⟩ : Addr) cs10.toList ∧
        (∃ (cs11 : Array Value), cs11.size = 2 ∧ CellsAt w41 (⟨t11, 0, none⟩ : Addr) cs11.toList ∧
          (callP Try.prog 20 #[(Value.agg cs10), (Value.agg cs11), (Value.int .i64 x15)] w41 (fun v14 w43 =>
              dT v14 fun vs3 =>
              optP (vs3[0]?) fun v15 =>
              dS v15 fun p9 n7 c9 =>
              optP (vs3[1]?) fun v16 =>
              dI .i64 v16 fun x16 =>
              cond (x16 != 0) (
                ∃ (cs12 : Array Value), cs12.size = 24 ∧ CellsAt w43 (⟨t6, 0, none⟩ : Addr) cs12.toList ∧
                (chk (decide (cs12.size = 24)) (
                    Wr w43 (⟨t2, 0, none⟩ : Addr) cs12.toList ∧ ∀ w45, w45 = w43.setCells (⟨t2, 0, none⟩ : Addr).block (⟨t2, 0, none⟩ : Addr).off cs12.toList →
                    (Wr w45 (⟨t3, 0, none⟩ : Addr) [(Value.int .i64 0), (Value.int .i64 0)] ∧ ∀ w46, w46 = w45.setCells (⟨t3, 0, none⟩ : Addr).block (⟨t3, 0, none⟩ : Addr).off [(Value.int .i64 0), (Value.int .i64 0)] →
                      (∃ (cs13 : Array Value), cs13.size = 24 ∧ CellsAt w46 (⟨t2, 0, none⟩ : Addr) cs13.toList ∧
                        (∃ (cs14 : Array Value), cs14.size = 2 ∧ CellsAt w46 (⟨t3, 0, none⟩ : Addr) cs14.toList ∧
                          (R (.returned (Value.tuple #[(Value.agg cs13), (Value.agg cs14), (Value.int .i64 0), (Value.int .i64 11)])) w46))))))) (
                cond (((n7 : Nat) : Int) != ((t0n : Nat) : Int)) (
                  ∃ (cs15 : Array Value), cs15.size = 24 ∧ CellsAt w43 (⟨t6, 0, none⟩ : Addr) cs15.toList ∧
                  (chk (decide (cs15.size = 24)) (
                      Wr w43 (⟨t2, 0, none⟩ : Addr) cs15.toList ∧ ∀ w47, w47 = w43.setCells (⟨t2, 0, none⟩ : Addr).block (⟨t2, 0, none⟩ : Addr).off cs15.toList →
                      (Wr w47 (⟨t3, 0, none⟩ : Addr) [(Value.int .i64 0), (Value.int .i64 0)] ∧ ∀ w48, w48 = w47.setCells (⟨t3, 0, none⟩ : Addr).block (⟨t3, 0, none⟩ : Addr).off [(Value.int .i64 0), (Value.int .i64 0)] →
                        (∃ (cs16 : Array Value), cs16.size = 24 ∧ CellsAt w48 (⟨t2, 0, none⟩ : Addr) cs16.toList ∧
                          (∃ (cs17 : Array Value), cs17.size = 2 ∧ CellsAt w48 (⟨t3, 0, none⟩ : Addr) cs17.toList ∧
                          (R (.returned (Value.tuple #[(Value.agg cs16), (Value.agg cs17), (Value.int .i64 0), (Value.int .i64 11)])) w48))))))) (
                  stopcockref13_Decode.l4 t0p t0n t0c t2 t3 t6 t11 t12 x15 p9 n7 c9 0 w43 R))) (fun ch w44 => R (.panicked ch) w44)))) (fun ch w42 => R (.panicked ch) w42)))
def stopcockref13_Decode.b2 (t0p : Option Addr) (t0n : Nat) (t0c : Nat) (t2 : Nat) (t3 : Nat) (t6 : Nat) (t7p : Option Addr) (t7n : Nat) (t7c : Nat) (t11 : Nat) (t12 : Nat) (t13 : Int) (t14 : Int) (w : World) (R : Ending → World → Prop) (C2 : Option Addr → Nat → Nat → Nat → Nat → Nat → Option Addr → Nat → Nat → Nat → Nat → Int → Int → World → Prop) : Prop :=
  cond (decide (t14 < 8)) (
    cond (decide ((IntKind.i64.wrap (t13 + 2)) ≤ ((t7n : Nat) : Int))) (
      chk (decide (0 ≤ t13)) (
        chk (decide (t13 < ((t7n : Nat) : Int))) (
          optP t7p fun d6 =>
          ∃ (x9 : Int), w.drew.cell? (d6.add (t13.toNat * 1)) = some (Value.int .u8 x9) ∧
          (chk (decide (0 ≤ (IntKind.i64.wrap (t13 + 1)))) (
              chk (decide ((IntKind.i64.wrap (t13 + 1)) < ((t7n : Nat) : Int))) (
                optP t7p fun d7 =>
                ∃ (x10 : Int), w.drew.cell? (d7.add ((IntKind.i64.wrap (t13 + 1)).toNat * 1)) = some (Value.int .u8 x10) ∧
                (chk (decide (0 ≤ t14)) (
                    chk (decide (t14 < (8 : Int))) (
                      Wr w.drew ((⟨t12, 0, none⟩ : Addr).add (t14.toNat * 2)) [(Value.int .i64 (IntKind.i64.wrap x9)), (Value.int .i64 (IntKind.i64.wrap x10))] ∧ ∀ w33, w33 = w.drew.setCells ((⟨t12, 0, none⟩ : Addr).add (t14.toNat * 2)).block ((⟨t12, 0, none⟩ : Addr).add (t14.toNat * 2)).off [(Value.int .i64 (IntKind.i64.wrap x9)), (Value.int .i64 (IntKind.i64.wrap x10))] →
                      (stopcockref13_Decode.l3 t0p t0n t0c t2 t3 t6 t7p t7n t7c t11 t12 (IntKind.i64.wrap (t13 + 2)) t14 0 t13 (IntKind.i64.wrap (t13 + 2)) t7p t7n t7c ((t7n : Nat) : Int) (decide ((IntKind.i64.wrap (t13 + 2)) ≤ ((t7n : Nat) : Int))) w33 R C2)))))))))) (
      stopcockref13_Decode.k5 t0p t0n t0c t2 t3 t6 t11 t12 w R)) (
    stopcockref13_Decode.k5 t0p t0n t0c t2 t3 t6 t11 t12 w R)
def stopcockref13_Decode.l2 (t0p : Option Addr) (t0n : Nat) (t0c : Nat) (t2 : Nat) (t3 : Nat) (t6 : Nat) (t7p : Option Addr) (t7n : Nat) (t7c : Nat) (t11 : Nat) (t12 : Nat) (t13 : Int) (t14 : Int) (w : World) (R : Ending → World → Prop) : Prop :=
  ∃ (I : Option Addr → Nat → Nat → Nat → Nat → Nat → Option Addr → Nat → Nat → Nat → Nat → Int → Int → World → Prop) (m : Option Addr → Nat → Nat → Nat → Nat → Nat → Option Addr → Nat → Nat → Nat → Nat → Int → Int → World → Nat), I t0p t0n t0c t2 t3 t6 t7p t7n t7c t11 t12 t13 t14 w ∧
  ∀ (t0p : Option Addr) (t0n : Nat) (t0c : Nat) (t2 : Nat) (t3 : Nat) (t6 : Nat) (t7p : Option Addr) (t7n : Nat) (t7c : Nat) (t11 : Nat) (t12 : Nat) (t13 : Int) (t14 : Int) (w : World), I t0p t0n t0c t2 t3 t6 t7p t7n t7c t11 t12 t13 t14 w →
  stopcockref13_Decode.b2 t0p t0n t0c t2 t3 t6 t7p t7n t7c t11 t12 t13 t14 w R (fun t0p' t0n' t0c' t2' t3' t6' t7p' t7n' t7c' t11' t12' t13' t14' w' => I t0p' t0n' t0c' t2' t3' t6' t7p' t7n' t7c' t11' t12' t13' t14' w' ∧ m t0p' t0n' t0c' t2' t3' t6' t7p' t7n' t7c' t11' t12' t13' t14' w' < m t0p t0n t0c t2 t3 t6 t7p t7n t7c t11 t12 t13 t14 w)
def stopcockref13_Decode.k3 (t0p : Option Addr) (t0n : Nat) (t0c : Nat) (t2 : Nat) (t3 : Nat) (t6 : Nat) (t7p : Option Addr) (t7n : Nat) (t7c : Nat) (t11 : Nat) (w : World) (R : Ending → World → Prop) : Prop :=
  newP w #[(Value.int .i64 0), (Value.int .i64 0), (Value.int .i64 0), (Value.int .i64 0), (Value.int .i64 0), (Value.int .i64 0), (Value.int .i64 0), (Value.int .i64 0), (Value.int .i64 0), (Value.int .i64 0), (Value.int .i64 0), (Value.int .i64 0), (Value.int .i64 0), (Value.int .i64 0), (Value.int .i64 0), (Value.int .i64 0), (Value.slice none 0 0), (Value.slice none 0 0), (Value.slice none 0 0), (Value.slice none 0 0), (Value.slice none 0 0), (Value.slice none 0 0), (Value.slice none 0 0), (Value.slice none 0 0)] 32 fun b8 w31 =>
  Wr w31 (⟨b8, 0, none⟩ : Addr) [(Value.int .i64 0), (Value.int .i64 0), (Value.int .i64 0), (Value.int .i64 0), (Value.int .i64 0), (Value.int .i64 0), (Value.int .i64 0), (Value.int .i64 0), (Value.int .i64 0), (Value.int .i64 0), (Value.int .i64 0), (Value.int .i64 0), (Value.int .i64 0), (Value.int .i64 0), (Value.int .i64 0), (Value.int .i64 0), (Value.slice none 0 0), (Value.slice none 0 0), (Value.slice none 0 0), (Value.slice none 0 0), (Value.slice none 0 0), (Value.slice none 0 0), (Value.slice none 0 0), (Value.slice none 0 0)] ∧ ∀ w32, w32 = w31.setCells (⟨b8, 0, none⟩ : Addr).block (⟨b8, 0, none⟩ : Addr).off [(Value.int .i64 0), (Value.int .i64 0), (Value.int .i64 0), (Value.int .i64 0), (Value.int .i64 0), (Value.int .i64 0), (Value.int .i64 0), (Value.int .i64 0), (Value.int .i64 0), (Value.int .i64 0), (Value.int .i64 0), (Value.int .i64 0), (Value.int .i64 0), (Value.int .i64 0), (Value.int .i64 0), (Value.int .i64 0), (Value.slice none 0 0), (Value.slice none 0 0), (Value.slice none 0 0), (Value.slice none 0 0), (Value.slice none 0 0), (Value.slice none 0 0), (Value.slice none 0 0), (Value.slice none 0 0)] →
  (stopcockref13_Decode.l2 t0p t0n t0c t2 t3 t6 t7p t7n t7c t11 b8 0 0 w32 R)
def stopcockref13_Decode.k2 (t0p : Option Addr) (t0n : Nat) (t0c : Nat) (t2 : Nat) (t3 : Nat) (t6 : Nat) (t7p : Option Addr) (t7n : Nat) (t7c : Nat) (w : World) (R : Ending → World → Prop) : Prop :=
  chk (decide (0 < ((t0n : Nat) : Int))) (
    optP t0p fun d4 =>
    ∃ (p4 : Option Addr) (n3 : Nat) (c4 : Nat), w.drew.cell? d4 = some (Value.slice p4 n3 c4) ∧
    (chk (decide (0 < ((t0n : Nat) : Int))) (
        optP t0p fun d5 =>
        ∃ (p5 : Option Addr) (n4 : Nat) (c5 : Nat), w.drew.cell? d5 = some (Value.slice p5 n4 c5) ∧
        ((callP Try.prog 18 #[(Value.slice p4 n3 c4), (Value.int .i64 8), (Value.int .i64 1)] w.drew (fun v4 w15 =>
              dI .i64 v4 fun x4 =>
              w15.cell? d5 = some (Value.slice p5 n4 c5) ∧
              ((callP Try.prog 18 #[(Value.slice p5 n4 c5), (Value.int .i64 9), (Value.int .i64 1)] w15 (fun v5 w17 =>
                    dI .i64 v5 fun x5 =>
                    newP w17 #[(Value.int .i64 0), (Value.int .i64 0)] 34 fun b5 w19 =>
                    (Value.agg #[(Value.int .i64 x4), (Value.int .i64 x5)]) = (Value.agg #[(Value.int .i64 x4), (Value.int .i64 x5)]) ∧
                    (Wr w19 (⟨b5, 0, none⟩ : Addr) [(Value.int .i64 x4), (Value.int .i64 x5)] ∧ ∀ w20, w20 = w19.setCells (⟨b5, 0, none⟩ : Addr).block (⟨b5, 0, none⟩ : Addr).off [(Value.int .i64 x4), (Value.int .i64 x5)] →
                      (stopcockref13_Decode.k3 t0p t0n t0c t2 t3 t6 t7p t7n t7c b5 w20 R))) (fun ch w18 => R (.panicked ch) w18)) ∧
                (newP w15 #[(Value.int .i64 0), (Value.int .i64 0)] 34 fun b6 w21 =>
                  w21.cell? d5 = some (Value.slice p5 n4 c5) ∧
                  (callP Try.prog 18 #[(Value.slice p5 n4 c5), (Value.int .i64 9), (Value.int .i64 1)] w21 (fun v6 w22 =>
                      dI .i64 v6 fun x6 =>
                      Wr w22 (⟨b6, 0, none⟩ : Addr) [(Value.int .i64 x4), (Value.int .i64 x6)] ∧ ∀ w24, w24 = w22.setCells (⟨b6, 0, none⟩ : Addr).block (⟨b6, 0, none⟩ : Addr).off [(Value.int .i64 x4), (Value.int .i64 x6)] →
                      (stopcockref13_Decode.k3 t0p t0n t0c t2 t3 t6 t7p t7n t7c b6 w24 R)) (fun ch w23 => R (.panicked ch) w23))))) (fun ch w16 => R (.panicked ch) w16)) ∧
          (newP w.drew #[(Value.int .i64 0), (Value.int .i64 0)] 34 fun b7 w25 =>
            w25.cell? d5 = some (Value.slice p5 n4 c5) ∧
            (w25.cell? d4 = some (Value.slice p4 n3 c4) ∧
              (callP Try.prog 18 #[(Value.slice p4 n3 c4), (Value.int .i64 8), (Value.int .i64 1)] w25 (fun v7 w26 =>
                  dI .i64 v7 fun x7 =>
                  w26.cell? d5 = some (Value.slice p5 n4 c5) ∧
                  (callP Try.prog 18 #[(Value.slice p5 n4 c5), (Value.int .i64 9), (Value.int .i64 1)] w26 (fun v8 w28 =>
                      dI .i64 v8 fun x8 =>
                      Wr w28 (⟨b7, 0, none⟩ : Addr) [(Value.int .i64 x7), (Value.int .i64 x8)] ∧ ∀ w30, w30 = w28.setCells (⟨b7, 0, none⟩ : Addr).block (⟨b7, 0, none⟩ : Addr).off [(Value.int .i64 x7), (Value.int .i64 x8)] →
                      (stopcockref13_Decode.k3 t0p t0n t0c t2 t3 t6 t7p t7n t7c b7 w30 R)) (fun ch w29 => R (.panicked ch) w29))) (fun ch w27 => R (.panicked ch) w27))))))))
def stopcockref13_Decode.b1 (t0p : Option Addr) (t0n : Nat) (t0c : Nat) (t2 : Nat) (t3 : Nat) (t6 : Nat) (t7p : Option Addr) (t7n : Nat) (t7c : Nat) (t8 : Int) (w : World) (R : Ending → World → Prop) (C1 : Option Addr → Nat → Nat → Nat → Nat → Nat → Option Addr → Nat → Nat → Int → World → Prop) : Prop :=
  cond (decide (t8 < ((t0n : Nat) : Int))) (
    chk (decide (0 ≤ t8)) (
      chk (decide (t8 < ((t0n : Nat) : Int))) (
        optP t0p fun d1 =>
        ∃ (p1 : Option Addr) (n1 : Nat) (c1 : Nat), w.cell? (d1.add (t8.toNat * 1)) = some (Value.slice p1 n1 c1) ∧
        (callP Try.prog 17 #[(Value.slice p1 n1 c1)] w (fun v1 w10 =>
            dT v1 fun vs1 =>
            optP (vs1[0]?) fun v2 =>
            dS v2 fun p2 n2 c2 =>
            optP (vs1[1]?) fun v3 =>
            dI .i64 v3 fun x1 =>
            cond (x1 != 0) (
              ∃ (cs7 : Array Value), cs7.size = 24 ∧ CellsAt w10 (⟨t6, 0, none⟩ : Addr) cs7.toList ∧
              (chk (decide (cs7.size = 24)) (
                  Wr w10 (⟨t2, 0, none⟩ : Addr) cs7.toList ∧ ∀ w12, w12 = w10.setCells (⟨t2, 0, none⟩ : Addr).block (⟨t2, 0, none⟩ : Addr).off cs7.toList →
                  (Wr w12 (⟨t3, 0, none⟩ : Addr) [(Value.int .i64 0), (Value.int .i64 0)] ∧ ∀ w13, w13 = w12.setCells (⟨t3, 0, none⟩ : Addr).block (⟨t3, 0, none⟩ : Addr).off [(Value.int .i64 0), (Value.int .i64 0)] →
                    (∃ (cs8 : Array Value), cs8.size = 24 ∧ CellsAt w13 (⟨t2, 0, none⟩ : Addr) cs8.toList ∧
                      (∃ (cs9 : Array Value), cs9.size = 2 ∧ CellsAt w13 (⟨t3, 0, none⟩ : Addr) cs9.toList ∧
                        (R (.returned (Value.tuple #[(Value.agg cs8), (Value.agg cs9), (Value.int .i64 0), (Value.int .i64 11)])) w13))))))) (
              cond (decide (t8 > 0)) (
                chk (decide (5 < ((n2 : Nat) : Int))) (
                  optP p2 fun d2 =>
                  ∃ (x2 : Int), w10.cell? (d2.add 5) = some (Value.int .u8 x2) ∧
                  (stopcockref13_Decode.k1 t0p t0n t0c t2 t3 t6 t7p t7n t7c t8 p2 n2 c2 (decide (x2 ≤ 52)) w10 R C1))) (
                stopcockref13_Decode.k1 t0p t0n t0c t2 t3 t6 t7p t7n t7c t8 p2 n2 c2 false w10 R C1))) (fun ch w11 => R (.panicked ch) w11))))) (
    stopcockref13_Decode.k2 t0p t0n t0c t2 t3 t6 t7p t7n t7c w R)
def stopcockref13_Decode.l1 (t0p : Option Addr) (t0n : Nat) (t0c : Nat) (t2 : Nat) (t3 : Nat) (t6 : Nat) (t7p : Option Addr) (t7n : Nat) (t7c : Nat) (t8 : Int) (w : World) (R : Ending → World → Prop) : Prop :=
  ∃ (I : Option Addr → Nat → Nat → Nat → Nat → Nat → Option Addr → Nat → Nat → Int → World → Prop) (m : Option Addr → Nat → Nat → Nat → Nat → Nat → Option Addr → Nat → Nat → Int → World → Nat), I t0p t0n t0c t2 t3 t6 t7p t7n t7c t8 w ∧
  ∀ (t0p : Option Addr) (t0n : Nat) (t0c : Nat) (t2 : Nat) (t3 : Nat) (t6 : Nat) (t7p : Option Addr) (t7n : Nat) (t7c : Nat) (t8 : Int) (w : World), I t0p t0n t0c t2 t3 t6 t7p t7n t7c t8 w →
  stopcockref13_Decode.b1 t0p t0n t0c t2 t3 t6 t7p t7n t7c t8 w R (fun t0p' t0n' t0c' t2' t3' t6' t7p' t7n' t7c' t8' w' => I t0p' t0n' t0c' t2' t3' t6' t7p' t7n' t7c' t8' w' ∧ m t0p' t0n' t0c' t2' t3' t6' t7p' t7n' t7c' t8' w' < m t0p t0n t0c t2 t3 t6 t7p t7n t7c t8 w)
def stopcockref13_Decode.main (a0p : Option Addr) (a0n : Nat) (a0c : Nat) (w : World) (R : Ending → World → Prop) : Prop :=
  newP w #[(Value.int .i64 0), (Value.int .i64 0), (Value.int .i64 0), (Value.int .i64 0), (Value.int .i64 0), (Value.int .i64 0), (Value.int .i64 0), (Value.int .i64 0), (Value.int .i64 0), (Value.int .i64 0), (Value.int .i64 0), (Value.int .i64 0), (Value.int .i64 0), (Value.int .i64 0), (Value.int .i64 0), (Value.int .i64 0), (Value.slice none 0 0), (Value.slice none 0 0), (Value.slice none 0 0), (Value.slice none 0 0), (Value.slice none 0 0), (Value.slice none 0 0), (Value.slice none 0 0), (Value.slice none 0 0)] 32 fun b1 w1 =>
  newP w1 #[(Value.int .i64 0), (Value.int .i64 0)] 34 fun b2 w2 =>
  newP w2 #[(Value.int .i64 0), (Value.int .i64 0), (Value.int .i64 0), (Value.int .i64 0), (Value.int .i64 0), (Value.int .i64 0), (Value.int .i64 0), (Value.int .i64 0), (Value.int .i64 0), (Value.int .i64 0), (Value.int .i64 0), (Value.int .i64 0), (Value.int .i64 0), (Value.int .i64 0), (Value.int .i64 0), (Value.int .i64 0), (Value.slice none 0 0), (Value.slice none 0 0), (Value.slice none 0 0), (Value.slice none 0 0), (Value.slice none 0 0), (Value.slice none 0 0), (Value.slice none 0 0), (Value.slice none 0 0)] 32 fun b3 w3 =>
  Wr w3 (⟨b3, 0, none⟩ : Addr) [(Value.int .i64 0), (Value.int .i64 0), (Value.int .i64 0), (Value.int .i64 0), (Value.int .i64 0), (Value.int .i64 0), (Value.int .i64 0), (Value.int .i64 0), (Value.int .i64 0), (Value.int .i64 0), (Value.int .i64 0), (Value.int .i64 0), (Value.int .i64 0), (Value.int .i64 0), (Value.int .i64 0), (Value.int .i64 0), (Value.slice none 0 0), (Value.slice none 0 0), (Value.slice none 0 0), (Value.slice none 0 0), (Value.slice none 0 0), (Value.slice none 0 0), (Value.slice none 0 0), (Value.slice none 0 0)] ∧ ∀ w4, w4 = w3.setCells (⟨b3, 0, none⟩ : Addr).block (⟨b3, 0, none⟩ : Addr).off [(Value.int .i64 0), (Value.int .i64 0), (Value.int .i64 0), (Value.int .i64 0), (Value.int .i64 0), (Value.int .i64 0), (Value.int .i64 0), (Value.int .i64 0), (Value.int .i64 0), (Value.int .i64 0), (Value.int .i64 0), (Value.int .i64 0), (Value.int .i64 0), (Value.int .i64 0), (Value.int .i64 0), (Value.int .i64 0), (Value.slice none 0 0), (Value.slice none 0 0), (Value.slice none 0 0), (Value.slice none 0 0), (Value.slice none 0 0), (Value.slice none 0 0), (Value.slice none 0 0), (Value.slice none 0 0)] →
  (cond (decide (((a0n : Nat) : Int) < 2)) (
      ∃ (cs1 : Array Value), cs1.size = 24 ∧ CellsAt w4 (⟨b3, 0, none⟩ : Addr) cs1.toList ∧
      (chk (decide (cs1.size = 24)) (
          Wr w4 (⟨b1, 0, none⟩ : Addr) cs1.toList ∧ ∀ w5, w5 = w4.setCells (⟨b1, 0, none⟩ : Addr).block (⟨b1, 0, none⟩ : Addr).off cs1.toList →
          (Wr w5 (⟨b2, 0, none⟩ : Addr) [(Value.int .i64 0), (Value.int .i64 0)] ∧ ∀ w6, w6 = w5.setCells (⟨b2, 0, none⟩ : Addr).block (⟨b2, 0, none⟩ : Addr).off [(Value.int .i64 0), (Value.int .i64 0)] →
            (∃ (cs2 : Array Value), cs2.size = 24 ∧ CellsAt w6 (⟨b1, 0, none⟩ : Addr) cs2.toList ∧
              (∃ (cs3 : Array Value), cs3.size = 2 ∧ CellsAt w6 (⟨b2, 0, none⟩ : Addr) cs3.toList ∧
                (R (.returned (Value.tuple #[(Value.agg cs2), (Value.agg cs3), (Value.int .i64 0), (Value.int .i64 11)])) w6))))))) (
      cond (decide (((a0n : Nat) : Int) > 12)) (
        ∃ (cs4 : Array Value), cs4.size = 24 ∧ CellsAt w4 (⟨b3, 0, none⟩ : Addr) cs4.toList ∧
        (chk (decide (cs4.size = 24)) (
            Wr w4 (⟨b1, 0, none⟩ : Addr) cs4.toList ∧ ∀ w7, w7 = w4.setCells (⟨b1, 0, none⟩ : Addr).block (⟨b1, 0, none⟩ : Addr).off cs4.toList →
            (Wr w7 (⟨b2, 0, none⟩ : Addr) [(Value.int .i64 0), (Value.int .i64 0)] ∧ ∀ w8, w8 = w7.setCells (⟨b2, 0, none⟩ : Addr).block (⟨b2, 0, none⟩ : Addr).off [(Value.int .i64 0), (Value.int .i64 0)] →
              (∃ (cs5 : Array Value), cs5.size = 24 ∧ CellsAt w8 (⟨b1, 0, none⟩ : Addr) cs5.toList ∧
                (∃ (cs6 : Array Value), cs6.size = 2 ∧ CellsAt w8 (⟨b2, 0, none⟩ : Addr) cs6.toList ∧
                  (R (.returned (Value.tuple #[(Value.agg cs5), (Value.agg cs6), (Value.int .i64 0), (Value.int .i64 11)])) w8))))))) (
        newP w4 #[] 5 fun b4 w9 =>
        stopcockref13_Decode.l1 a0p a0n a0c b1 b2 b3 (some ⟨b4, 0, none⟩) 0 0 0 w9 R)))
abbrev stopcockref13_Decode.C (a0p : Option Addr) (a0n : Nat) (a0c : Nat) (w : World) (R : Ending → World → Prop) : Prop := Calls Try.prog 7 #[(Value.slice a0p a0n a0c)] w R
noncomputable def stopcockref13_Decode.code : Code := (Try.f7.body).getD .skip
noncomputable def stopcockref13_Decode.sk (R : Ending → World → Prop) : Sk := (.seq .leaf (.seq .leaf (.seq .leaf (.seq .leaf (.cut [(0, .slice), (2, .blk), (3, .blk), (6, .blk), (7, .slice)] (fun (t0p : Option Addr) (t0n : Nat) (t0c : Nat) (t2 : Nat) (t3 : Nat) (t6 : Nat) (t7p : Option Addr) (t7n : Nat) (t7c : Nat) (w : World) => stopcockref13_Decode.k2 t0p t0n t0c t2 t3 t6 t7p t7n t7c w R) (.seq .leaf (.block (.loop [(0, .slice), (2, .blk), (3, .blk), (6, .blk), (7, .slice), (8, .int .i64)] (fun (t0p : Option Addr) (t0n : Nat) (t0c : Nat) (t2 : Nat) (t3 : Nat) (t6 : Nat) (t7p : Option Addr) (t7n : Nat) (t7c : Nat) (t8 : Int) (w : World) => stopcockref13_Decode.l1 t0p t0n t0c t2 t3 t6 t7p t7n t7c t8 w R) (fun (C1 : Option Addr → Nat → Nat → Nat → Nat → Nat → Option Addr → Nat → Nat → Int → World → Prop) => (.seq .leaf (.seq (.block (.seq .leaf (.seq .leaf (.cut [(0, .slice), (2, .blk), (3, .blk), (6, .blk), (7, .slice), (8, .int .i64), (9, .slice), (59, .bool)] (fun (t0p : Option Addr) (t0n : Nat) (t0c : Nat) (t2 : Nat) (t3 : Nat) (t6 : Nat) (t7p : Option Addr) (t7n : Nat) (t7c : Nat) (t8 : Int) (t9p : Option Addr) (t9n : Nat) (t9c : Nat) (t59 : Bool) (w : World) => stopcockref13_Decode.k1 t0p t0n t0c t2 t3 t6 t7p t7n t7c t8 t9p t9n t9c t59 w R C1) .leaf .leaf)))) .leaf)))))) (.cut [(0, .slice), (2, .blk), (3, .blk), (6, .blk), (7, .slice), (11, .blk)] (fun (t0p : Option Addr) (t0n : Nat) (t0c : Nat) (t2 : Nat) (t3 : Nat) (t6 : Nat) (t7p : Option Addr) (t7n : Nat) (t7c : Nat) (t11 : Nat) (w : World) => stopcockref13_Decode.k3 t0p t0n t0c t2 t3 t6 t7p t7n t7c t11 w R) .leaf (.seq .leaf (.seq .leaf (.cut [(0, .slice), (2, .blk), (3, .blk), (6, .blk), (11, .blk), (12, .blk)] (fun (t0p : Option Addr) (t0n : Nat) (t0c : Nat) (t2 : Nat) (t3 : Nat) (t6 : Nat) (t11 : Nat) (t12 : Nat) (w : World) => stopcockref13_Decode.k5 t0p t0n t0c t2 t3 t6 t11 t12 w R) (.seq .leaf (.block (.loop [(0, .slice), (2, .blk), (3, .blk), (6, .blk), (7, .slice), (11, .blk), (12, .blk), (13, .int .i64), (14, .int .i64)] (fun (t0p : Option Addr) (t0n : Nat) (t0c : Nat) (t2 : Nat) (t3 : Nat) (t6 : Nat) (t7p : Option Addr) (t7n : Nat) (t7c : Nat) (t11 : Nat) (t12 : Nat) (t13 : Int) (t14 : Int) (w : World) => stopcockref13_Decode.l2 t0p t0n t0c t2 t3 t6 t7p t7n t7c t11 t12 t13 t14 w R) (fun (C2 : Option Addr → Nat → Nat → Nat → Nat → Nat → Option Addr → Nat → Nat → Nat → Nat → Int → Int → World → Prop) => (.seq .leaf (.seq (.block (.seq .leaf (.seq .leaf (.seq .leaf (.block (.loop [(0, .slice), (2, .blk), (3, .blk), (6, .blk), (7, .slice), (11, .blk), (12, .blk), (13, .int .i64), (14, .int .i64), (15, .int .i64), (82, .int .i64), (83, .int .i64), (84, .slice), (85, .int .i64), (86, .bool)] (fun (t0p : Option Addr) (t0n : Nat) (t0c : Nat) (t2 : Nat) (t3 : Nat) (t6 : Nat) (t7p : Option Addr) (t7n : Nat) (t7c : Nat) (t11 : Nat) (t12 : Nat) (t13 : Int) (t14 : Int) (t15 : Int) (t82 : Int) (t83 : Int) (t84p : Option Addr) (t84n : Nat) (t84c : Nat) (t85 : Int) (t86 : Bool) (w : World) => stopcockref13_Decode.l3 t0p t0n t0c t2 t3 t6 t7p t7n t7c t11 t12 t13 t14 t15 t82 t83 t84p t84n t84c t85 t86 w R C2) (fun (C3 : Option Addr → Nat → Nat → Nat → Nat → Nat → Option Addr → Nat → Nat → Nat → Nat → Int → Int → Int → Int → Int → Option Addr → Nat → Nat → Int → Bool → World → Prop) => (.seq .leaf (.seq (.block (.seq .leaf (.seq .leaf (.cut [(0, .slice), (2, .blk), (3, .blk), (6, .blk), (7, .slice), (11, .blk), (12, .blk), (13, .int .i64), (14, .int .i64), (15, .int .i64), (17, .cpx), (82, .int .i64), (83, .int .i64), (84, .slice), (85, .int .i64), (86, .bool), (115, .int .i64), (116, .int .i64), (117, .slice), (118, .int .i64), (119, .bool)] (fun (t0p : Option Addr) (t0n : Nat) (t0c : Nat) (t2 : Nat) (t3 : Nat) (t6 : Nat) (t7p : Option Addr) (t7n : Nat) (t7c : Nat) (t11 : Nat) (t12 : Nat) (t13 : Int) (t14 : Int) (t15 : Int) (t17r : Nat) (t17m : Nat) (t82 : Int) (t83 : Int) (t84p : Option Addr) (t84n : Nat) (t84c : Nat) (t85 : Int) (t86 : Bool) (t115 : Int) (t116 : Int) (t117p : Option Addr) (t117n : Nat) (t117c : Nat) (t118 : Int) (t119 : Bool) (w : World) => stopcockref13_Decode.k4 t0p t0n t0c t2 t3 t6 t7p t7n t7c t11 t12 t13 t14 t15 t17r t17m t82 t83 t84p t84n t84c t85 t86 t115 t116 t117p t117n t117c t118 t119 w R C2 C3) .leaf .leaf)))) .leaf))))))))) .leaf)))))) (.seq .leaf (.seq .leaf (.seq .leaf (.cut [(2, .blk), (3, .blk), (11, .blk), (12, .blk), (18, .int .i64)] (fun (t2 : Nat) (t3 : Nat) (t11 : Nat) (t12 : Nat) (t18 : Int) (w : World) => stopcockref13_Decode.k6 t2 t3 t11 t12 t18 w R) (.seq .leaf (.block (.loop [(0, .slice), (2, .blk), (3, .blk), (6, .blk), (11, .blk), (12, .blk), (18, .int .i64), (19, .slice), (21, .int .i64)] (fun (t0p : Option Addr) (t0n : Nat) (t0c : Nat) (t2 : Nat) (t3 : Nat) (t6 : Nat) (t11 : Nat) (t12 : Nat) (t18 : Int) (t19p : Option Addr) (t19n : Nat) (t19c : Nat) (t21 : Int) (w : World) => stopcockref13_Decode.l4 t0p t0n t0c t2 t3 t6 t11 t12 t18 t19p t19n t19c t21 w R) (fun (C4 : Option Addr → Nat → Nat → Nat → Nat → Nat → Nat → Nat → Int → Option Addr → Nat → Nat → Int → World → Prop) => .leaf)))) .leaf)))))))))))))
def stopcockref13_Decode.owed (R : Ending → World → Prop) : Prop :=
  (∀ (t0p : Option Addr) (t0n : Nat) (t0c : Nat) (t2 : Nat) (t3 : Nat) (t6 : Nat) (t7p : Option Addr) (t7n : Nat) (t7c : Nat) (t8 : Int) (w : World), stopcockref13_Decode.l1 t0p t0n t0c t2 t3 t6 t7p t7n t7c t8 w R → stopcockref13_Decode.l1 t0p t0n t0c t2 t3 t6 t7p t7n t7c t8 w R) ∧ (∀ (C1 : Option Addr → Nat → Nat → Nat → Nat → Nat → Option Addr → Nat → Nat → Int → World → Prop), (∀ (t0p : Option Addr) (t0n : Nat) (t0c : Nat) (t2 : Nat) (t3 : Nat) (t6 : Nat) (t7p : Option Addr) (t7n : Nat) (t7c : Nat) (t8 : Int) (t9p : Option Addr) (t9n : Nat) (t9c : Nat) (t59 : Bool) (w : World), stopcockref13_Decode.k1 t0p t0n t0c t2 t3 t6 t7p t7n t7c t8 t9p t9n t9c t59 w R C1 → stopcockref13_Decode.k1 t0p t0n t0c t2 t3 t6 t7p t7n t7c t8 t9p t9n t9c t59 w R C1) ∧ True) ∧ (∀ (t0p : Option Addr) (t0n : Nat) (t0c : Nat) (t2 : Nat) (t3 : Nat) (t6 : Nat) (t7p : Option Addr) (t7n : Nat) (t7c : Nat) (w : World), stopcockref13_Decode.k2 t0p t0n t0c t2 t3 t6 t7p t7n t7c w R → stopcockref13_Decode.k2 t0p t0n t0c t2 t3 t6 t7p t7n t7c w R) ∧ (∀ (t0p : Option Addr) (t0n : Nat) (t0c : Nat) (t2 : Nat) (t3 : Nat) (t6 : Nat) (t7p : Option Addr) (t7n : Nat) (t7c : Nat) (t11 : Nat) (w : World), stopcockref13_Decode.k3 t0p t0n t0c t2 t3 t6 t7p t7n t7c t11 w R → stopcockref13_Decode.k3 t0p t0n t0c t2 t3 t6 t7p t7n t7c t11 w R) ∧ (∀ (t0p : Option Addr) (t0n : Nat) (t0c : Nat) (t2 : Nat) (t3 : Nat) (t6 : Nat) (t7p : Option Addr) (t7n : Nat) (t7c : Nat) (t11 : Nat) (t12 : Nat) (t13 : Int) (t14 : Int) (w : World), stopcockref13_Decode.l2 t0p t0n t0c t2 t3 t6 t7p t7n t7c t11 t12 t13 t14 w R → stopcockref13_Decode.l2 t0p t0n t0c t2 t3 t6 t7p t7n t7c t11 t12 t13 t14 w R) ∧ (∀ (C2 : Option Addr → Nat → Nat → Nat → Nat → Nat → Option Addr → Nat → Nat → Nat → Nat → Int → Int → World → Prop), (∀ (t0p : Option Addr) (t0n : Nat) (t0c : Nat) (t2 : Nat) (t3 : Nat) (t6 : Nat) (t7p : Option Addr) (t7n : Nat) (t7c : Nat) (t11 : Nat) (t12 : Nat) (t13 : Int) (t14 : Int) (t15 : Int) (t82 : Int) (t83 : Int) (t84p : Option Addr) (t84n : Nat) (t84c : Nat) (t85 : Int) (t86 : Bool) (w : World), stopcockref13_Decode.l3 t0p t0n t0c t2 t3 t6 t7p t7n t7c t11 t12 t13 t14 t15 t82 t83 t84p t84n t84c t85 t86 w R C2 → stopcockref13_Decode.l3 t0p t0n t0c t2 t3 t6 t7p t7n t7c t11 t12 t13 t14 t15 t82 t83 t84p t84n t84c t85 t86 w R C2) ∧ (∀ (C3 : Option Addr → Nat → Nat → Nat → Nat → Nat → Option Addr → Nat → Nat → Nat → Nat → Int → Int → Int → Int → Int → Option Addr → Nat → Nat → Int → Bool → World → Prop), (∀ (t0p : Option Addr) (t0n : Nat) (t0c : Nat) (t2 : Nat) (t3 : Nat) (t6 : Nat) (t7p : Option Addr) (t7n : Nat) (t7c : Nat) (t11 : Nat) (t12 : Nat) (t13 : Int) (t14 : Int) (t15 : Int) (t17r : Nat) (t17m : Nat) (t82 : Int) (t83 : Int) (t84p : Option Addr) (t84n : Nat) (t84c : Nat) (t85 : Int) (t86 : Bool) (t115 : Int) (t116 : Int) (t117p : Option Addr) (t117n : Nat) (t117c : Nat) (t118 : Int) (t119 : Bool) (w : World), stopcockref13_Decode.k4 t0p t0n t0c t2 t3 t6 t7p t7n t7c t11 t12 t13 t14 t15 t17r t17m t82 t83 t84p t84n t84c t85 t86 t115 t116 t117p t117n t117c t118 t119 w R C2 C3 → stopcockref13_Decode.k4 t0p t0n t0c t2 t3 t6 t7p t7n t7c t11 t12 t13 t14 t15 t17r t17m t82 t83 t84p t84n t84c t85 t86 t115 t116 t117p t117n t117c t118 t119 w R C2 C3) ∧ True) ∧ True) ∧ (∀ (t0p : Option Addr) (t0n : Nat) (t0c : Nat) (t2 : Nat) (t3 : Nat) (t6 : Nat) (t11 : Nat) (t12 : Nat) (w : World), stopcockref13_Decode.k5 t0p t0n t0c t2 t3 t6 t11 t12 w R → stopcockref13_Decode.k5 t0p t0n t0c t2 t3 t6 t11 t12 w R) ∧ (∀ (t0p : Option Addr) (t0n : Nat) (t0c : Nat) (t2 : Nat) (t3 : Nat) (t6 : Nat) (t11 : Nat) (t12 : Nat) (t18 : Int) (t19p : Option Addr) (t19n : Nat) (t19c : Nat) (t21 : Int) (w : World), stopcockref13_Decode.l4 t0p t0n t0c t2 t3 t6 t11 t12 t18 t19p t19n t19c t21 w R → stopcockref13_Decode.l4 t0p t0n t0c t2 t3 t6 t11 t12 t18 t19p t19n t19c t21 w R) ∧ (∀ (C4 : Option Addr → Nat → Nat → Nat → Nat → Nat → Nat → Nat → Int → Option Addr → Nat → Nat → Int → World → Prop), True) ∧ (∀ (t2 : Nat) (t3 : Nat) (t11 : Nat) (t12 : Nat) (t18 : Int) (w : World), stopcockref13_Decode.k6 t2 t3 t11 t12 t18 w R → stopcockref13_Decode.k6 t2 t3 t11 t12 t18 w R) ∧ True
theorem stopcockref13_Decode.pays (R : Ending → World → Prop) : stopcockref13_Decode.owed R := ⟨(fun _ _ _ _ _ _ _ _ _ _ _ h => h), (fun _ => ⟨(fun _ _ _ _ _ _ _ _ _ _ _ _ _ _ _ h => h), trivial⟩), (fun _ _ _ _ _ _ _ _ _ _ h => h), (fun _ _ _ _ _ _ _ _ _ _ _ h => h), (fun _ _ _ _ _ _ _ _ _ _ _ _ _ _ h => h), (fun _ => ⟨(fun _ _ _ _ _ _ _ _ _ _ _ _ _ _ _ _ _ _ _ _ _ _ h => h), (fun _ => ⟨(fun _ _ _ _ _ _ _ _ _ _ _ _ _ _ _ _ _ _ _ _ _ _ _ _ _ _ _ _ _ _ _ h => h), trivial⟩), trivial⟩), (fun _ _ _ _ _ _ _ _ _ h => h), (fun _ _ _ _ _ _ _ _ _ _ _ _ _ _ h => h), (fun _ => trivial), (fun _ _ _ _ _ _ h => h), trivial⟩
set_option maxRecDepth 100000 in
theorem stopcockref13_Decode.ok {a0p : Option Addr} {a0n : Nat} {a0c : Nat} {w : World} {R : Ending → World → Prop} (h : stopcockref13_Decode.main a0p a0n a0c w R) : stopcockref13_Decode.C a0p a0n a0c w R :=
  ev_ok cxok (c := cx) Try.func7 (code := stopcockref13_Decode.code) (by kernel_rfl) [.cell 2 32, .cell 3 34, .tmp 4, .tmp 5] (by kernel_rfl) 192 (by kernel_rfl) (stopcockref13_Decode.sk R) (args := [(Value.slice a0p a0n a0c)]) (Nat.le_of_ble_eq_true rfl) (by kernel_rfl) (o := stopcockref13_Decode.owed R) (by kernel_rfl) (stopcockref13_Decode.pays R) h

/-! ### stopcock/stopcocklaw14.pages: function 8 -/
def stopcocklaw14_pages.b1 (t0 : Option Addr) (t1 : Int) (t7 : Int) (t10p : Option Addr) (t10n : Nat) (t10c : Nat) (t11 : Int) (w : World) (R : Ending → World → Prop) (C1 : Option Addr → Int → Int → Option Addr → Nat → Nat → Int → World → Prop) : Prop :=
  cond (decide (t11 ≤ t7)) (
    callP Try.prog 21 #[(Value.pointer t0), (Value.int .i64 (IntKind.i64.wrap (t1 + t11)))] w (fun v9 w8 =>
      dT v9 fun vs3 =>
      optP (vs3[0]?) fun v10 =>
      dS v10 fun p2 n2 c2 =>
      optP (vs3[1]?) fun v11 =>
      dI .i64 v11 fun x6 =>
      cond (x6 != 0) (
        R (.returned (Value.slice none 0 0)) w8) (
        newP w8 #[(Value.slice p2 n2 c2)] 44 fun b2 w10 =>
        appP w10 t10p t10n t10c 1 (CellsO w10 (some ⟨b2, 0, none⟩)) 44 1 24 #[(Value.slice none 0 0)] fun p3 c3 w11 =>
        C1 t0 t1 t7 p3 (t10n + 1) c3 (IntKind.i64.wrap (t11 + 1)) w11)) (fun ch w9 => R (.panicked ch) w9)) (
    R (.returned (Value.slice t10p t10n t10c)) w)
def stopcocklaw14_pages.l1 (t0 : Option Addr) (t1 : Int) (t7 : Int) (t10p : Option Addr) (t10n : Nat) (t10c : Nat) (t11 : Int) (w : World) (R : Ending → World → Prop) : Prop :=
  ∃ (I : Option Addr → Int → Int → Option Addr → Nat → Nat → Int → World → Prop) (m : Option Addr → Int → Int → Option Addr → Nat → Nat → Int → World → Nat), I t0 t1 t7 t10p t10n t10c t11 w ∧
  ∀ (t0 : Option Addr) (t1 : Int) (t7 : Int) (t10p : Option Addr) (t10n : Nat) (t10c : Nat) (t11 : Int) (w : World), I t0 t1 t7 t10p t10n t10c t11 w →
  stopcocklaw14_pages.b1 t0 t1 t7 t10p t10n t10c t11 w R (fun t0' t1' t7' t10p' t10n' t10c' t11' w' => I t0' t1' t7' t10p' t10n' t10c' t11' w' ∧ m t0' t1' t7' t10p' t10n' t10c' t11' w' < m t0 t1 t7 t10p t10n t10c t11 w)
def stopcocklaw14_pages.main (a0 : Option Addr) (a1 : Int) (w : World) (R : Ending → World → Prop) : Prop :=
  callP Try.prog 21 #[(Value.pointer a0), (Value.int .i64 a1)] w (fun v1 w1 =>
    dT v1 fun vs1 =>
    optP (vs1[0]?) fun v2 =>
    dS v2 fun p1 n1 c1 =>
    optP (vs1[1]?) fun v3 =>
    dI .i64 v3 fun x1 =>
    callP Try.prog 22 #[(Value.slice p1 n1 c1)] w1 (fun v4 w3 =>
      dT v4 fun vs2 =>
      optP (vs2[0]?) fun v5 =>
      dI .i64 v5 fun x2 =>
      optP (vs2[1]?) fun v6 =>
      dI .i64 v6 fun x3 =>
      optP (vs2[2]?) fun v7 =>
      dI .i64 v7 fun x4 =>
      cond (x1 != 0) (
        R (.returned (Value.slice none 0 0)) w3) (
        cond (x4 != 0) (
          R (.returned (Value.slice none 0 0)) w3) (
          callP Try.prog 23 #[(Value.int .i64 x3)] w3 (fun v8 w5 =>
            dI .i64 v8 fun x5 =>
            cond (x5 != a1) (
              R (.returned (Value.slice none 0 0)) w5) (
              newP w5 #[(Value.slice p1 n1 c1)] 44 fun b1 w7 =>
              stopcocklaw14_pages.l1 a0 a1 x2 (some ⟨b1, 0, none⟩) 1 1 1 w7 R)) (fun ch w6 => R (.panicked ch) w6)))) (fun ch w4 => R (.panicked ch) w4)) (fun ch w2 => R (.panicked ch) w2)
abbrev stopcocklaw14_pages.C (a0 : Option Addr) (a1 : Int) (w : World) (R : Ending → World → Prop) : Prop := Calls Try.prog 8 #[(Value.pointer a0), (Value.int .i64 a1)] w R
noncomputable def stopcocklaw14_pages.code : Code := (Try.f8.body).getD .skip
noncomputable def stopcocklaw14_pages.sk (R : Ending → World → Prop) : Sk := (.seq .leaf (.seq .leaf (.seq .leaf (.seq .leaf (.seq .leaf (.seq (.seq .leaf (.block (.loop [(0, .ptr), (1, .int .i64), (7, .int .i64), (10, .slice), (11, .int .i64)] (fun (t0 : Option Addr) (t1 : Int) (t7 : Int) (t10p : Option Addr) (t10n : Nat) (t10c : Nat) (t11 : Int) (w : World) => stopcocklaw14_pages.l1 t0 t1 t7 t10p t10n t10c t11 w R) (fun (C1 : Option Addr → Int → Int → Option Addr → Nat → Nat → Int → World → Prop) => .leaf)))) .leaf))))))
def stopcocklaw14_pages.owed (R : Ending → World → Prop) : Prop :=
  (∀ (t0 : Option Addr) (t1 : Int) (t7 : Int) (t10p : Option Addr) (t10n : Nat) (t10c : Nat) (t11 : Int) (w : World), stopcocklaw14_pages.l1 t0 t1 t7 t10p t10n t10c t11 w R → stopcocklaw14_pages.l1 t0 t1 t7 t10p t10n t10c t11 w R) ∧ (∀ (C1 : Option Addr → Int → Int → Option Addr → Nat → Nat → Int → World → Prop), True) ∧ True
theorem stopcocklaw14_pages.pays (R : Ending → World → Prop) : stopcocklaw14_pages.owed R := ⟨(fun _ _ _ _ _ _ _ _ h => h), (fun _ => trivial), trivial⟩
set_option maxRecDepth 100000 in
theorem stopcocklaw14_pages.ok {a0 : Option Addr} {a1 : Int} {w : World} {R : Ending → World → Prop} (h : stopcocklaw14_pages.main a0 a1 w R) : stopcocklaw14_pages.C a0 a1 w R :=
  ev_ok cxok (c := cx) Try.func8 (code := stopcocklaw14_pages.code) (by kernel_rfl) [.tmp 4] (by kernel_rfl) 60 (by kernel_rfl) (stopcocklaw14_pages.sk R) (args := [(Value.pointer a0), (Value.int .i64 a1)]) (Nat.le_of_ble_eq_true rfl) (by kernel_rfl) (o := stopcocklaw14_pages.owed R) (by kernel_rfl) (stopcocklaw14_pages.pays R) h

/-! ### stopcock/stopcockref07.Same: function 9 -/
def stopcockref07_Same.b1 (t2 : Nat) (t3 : Nat) (t5 : Int) (w : World) (R : Ending → World → Prop) (C1 : Nat → Nat → Int → World → Prop) : Prop :=
  cond (decide (t5 < 8)) (
    chk (decide (0 ≤ t5)) (
      chk (decide (t5 < (8 : Int))) (
        ∃ (cs1 : Array Value), cs1.size = 2 ∧ CellsAt w.drew ((⟨t2, 0, none⟩ : Addr).add (t5.toNat * 2)) cs1.toList ∧
        (chk (decide (0 ≤ t5)) (
            chk (decide (t5 < (8 : Int))) (
              ∃ (cs2 : Array Value), cs2.size = 2 ∧ CellsAt w.drew ((⟨t3, 0, none⟩ : Addr).add (t5.toNat * 2)) cs2.toList ∧
              (∃ (b3 : Bool), eqRun Try.prog .neq 27 (.tmp 13) (.tmp 17) (Value.agg cs1) (Value.agg cs2) b3 ∧
                (cond b3 (
                    R (.returned (Value.bool false)) w.drew) (
                    chk (decide (0 ≤ t5)) (
                      chk (decide (t5 < (8 : Int))) (
                        ∃ (p1 : Option Addr) (n1 : Nat) (c1 : Nat), w.drew.cell? ((⟨t2, 16, none⟩ : Addr).add (t5.toNat * 1)) = some (Value.slice p1 n1 c1) ∧
                        (chk (decide (0 ≤ t5)) (
                          chk (decide (t5 < (8 : Int))) (
                          ∃ (p2 : Option Addr) (n2 : Nat) (c2 : Nat), w.drew.cell? ((⟨t3, 16, none⟩ : Addr).add (t5.toNat * 1)) = some (Value.slice p2 n2 c2) ∧
                          (callP Try.prog 24 #[(Value.slice p1 n1 c1), (Value.slice p2 n2 c2)] w.drew (fun v1 w3 =>
                          dB v1 fun b4 =>
                          cond (!b4) (
                          R (.returned (Value.bool false)) w3) (
                          C1 t2 t3 (IntKind.i64.wrap (t5 + 1)) w3)) (fun ch w4 => R (.panicked ch) w4)))))))))))))))) (
    R (.returned (Value.bool true)) w)
def stopcockref07_Same.l1 (t2 : Nat) (t3 : Nat) (t5 : Int) (w : World) (R : Ending → World → Prop) : Prop :=
  ∃ (I : Nat → Nat → Int → World → Prop) (m : Nat → Nat → Int → World → Nat), I t2 t3 t5 w ∧
  ∀ (t2 : Nat) (t3 : Nat) (t5 : Int) (w : World), I t2 t3 t5 w →
  stopcockref07_Same.b1 t2 t3 t5 w R (fun t2' t3' t5' w' => I t2' t3' t5' w' ∧ m t2' t3' t5' w' < m t2 t3 t5 w)
def stopcockref07_Same.main (a0 : Array Value) (a1 : Array Value) (w : World) (R : Ending → World → Prop) : Prop :=
  newP w a0 32 fun b1 w1 =>
  newP w1 a1 32 fun b2 w2 =>
  stopcockref07_Same.l1 b1 b2 0 w2 R
abbrev stopcockref07_Same.C (a0 : Array Value) (a1 : Array Value) (w : World) (R : Ending → World → Prop) : Prop := Calls Try.prog 9 #[(Value.agg a0), (Value.agg a1)] w R
noncomputable def stopcockref07_Same.code : Code := (Try.f9.body).getD .skip
noncomputable def stopcockref07_Same.sk (R : Ending → World → Prop) : Sk := (.seq .leaf (.seq (.seq .leaf (.block (.loop [(2, .blk), (3, .blk), (5, .int .i64)] (fun (t2 : Nat) (t3 : Nat) (t5 : Int) (w : World) => stopcockref07_Same.l1 t2 t3 t5 w R) (fun (C1 : Nat → Nat → Int → World → Prop) => .leaf)))) .leaf))
def stopcockref07_Same.owed (R : Ending → World → Prop) : Prop :=
  (∀ (t2 : Nat) (t3 : Nat) (t5 : Int) (w : World), stopcockref07_Same.l1 t2 t3 t5 w R → stopcockref07_Same.l1 t2 t3 t5 w R) ∧ (∀ (C1 : Nat → Nat → Int → World → Prop), True) ∧ True
theorem stopcockref07_Same.pays (R : Ending → World → Prop) : stopcockref07_Same.owed R := ⟨(fun _ _ _ _ h => h), (fun _ => trivial), trivial⟩
set_option maxRecDepth 100000 in
theorem stopcockref07_Same.ok {a0 : Array Value} {a1 : Array Value} {w : World} {R : Ending → World → Prop} (h : stopcockref07_Same.main a0 a1 w R) : stopcockref07_Same.C a0 a1 w R :=
  ev_ok cxok (c := cx) Try.func9 (code := stopcockref07_Same.code) (by kernel_rfl) [.tmp 4] (by kernel_rfl) 31 (by kernel_rfl) (stopcockref07_Same.sk R) (args := [(Value.agg a0), (Value.agg a1)]) (Nat.le_of_ble_eq_true rfl) (by kernel_rfl) (o := stopcockref07_Same.owed R) (by kernel_rfl) (stopcockref07_Same.pays R) h

/-! ### stopcock/basin.New: function 10 -/
def basin_New.main (a0 : Int) (w : World) (R : Ending → World → Prop) : Prop :=
  cond (decide (a0 < 1)) (
    R (.returned (Value.tuple #[(Value.pointer none), (Value.int .i64 1)])) w) (
    cond (decide (a0 > 424)) (
      R (.returned (Value.tuple #[(Value.pointer none), (Value.int .i64 1)])) w) (
      (chk (decide (0 ≤ a0)) (
          chk (decide (a0 ≤ a0)) (
            chk (decide ((64 : Int) * a0 ≤ 281474976710656 ∧ a0 ≤ 9223372036854775807)) (
              newP w.drew (madeCells (List.replicate 64 (Value.int .u8 0)).toArray (a0.toNat * 64)) 73 fun b1 w1 =>
              chk (decide (0 ≤ a0)) (
                chk (decide (a0 ≤ a0)) (
                  chk (decide ((64 : Int) * a0 ≤ 281474976710656 ∧ a0 ≤ 9223372036854775807)) (
                    newP w1 (madeCells (List.replicate 64 (Value.int .u8 0)).toArray (a0.toNat * 64)) 73 fun b2 w2 =>
                    newP w2 #[(Value.slice (some ⟨b1, 0, none⟩) a0.toNat a0.toNat), (Value.slice (some ⟨b2, 0, none⟩) a0.toNat a0.toNat), (Value.slice none 0 0), (Value.int .i64 (-1)), (Value.bool false)] 67 fun b3 w3 =>
                    R (.returned (Value.tuple #[(Value.pointer (some (⟨b3, 0, none⟩ : Addr))), (Value.int .i64 0)])) w3))))))) ∧
      (chk (decide (0 ≤ a0)) (
          chk (decide (a0 ≤ a0)) (
            chk (decide ((64 : Int) * a0 ≤ 281474976710656 ∧ a0 ≤ 9223372036854775807)) (
              newP w.drew (madeCells (List.replicate 64 (Value.int .u8 0)).toArray (a0.toNat * 64)) 73 fun b4 w4 =>
              chk (decide (0 ≤ a0)) (
                chk (decide (a0 ≤ a0)) (
                  chk (decide ((64 : Int) * a0 ≤ 281474976710656 ∧ a0 ≤ 9223372036854775807)) (
                    newP w4 (madeCells (List.replicate 64 (Value.int .u8 0)).toArray (a0.toNat * 64)) 73 fun b5 w5 =>
                    newP w5 #[(Value.slice (some ⟨b5, 0, none⟩) a0.toNat a0.toNat), (Value.slice (some ⟨b4, 0, none⟩) a0.toNat a0.toNat), (Value.slice none 0 0), (Value.int .i64 (-1)), (Value.bool false)] 67 fun b6 w6 =>
                    R (.returned (Value.tuple #[(Value.pointer (some (⟨b6, 0, none⟩ : Addr))), (Value.int .i64 0)])) w6)))))))))
abbrev basin_New.C (a0 : Int) (w : World) (R : Ending → World → Prop) : Prop := Calls Try.prog 10 #[(Value.int .i64 a0)] w R
noncomputable def basin_New.code : Code := (Try.f10.body).getD .skip
noncomputable def basin_New.sk (R : Ending → World → Prop) : Sk := .leaf
def basin_New.owed (R : Ending → World → Prop) : Prop :=
  True
theorem basin_New.pays (R : Ending → World → Prop) : basin_New.owed R := trivial
set_option maxRecDepth 100000 in
theorem basin_New.ok {a0 : Int} {w : World} {R : Ending → World → Prop} (h : basin_New.main a0 w R) : basin_New.C a0 w R :=
  ev_ok cxok (c := cx) Try.func10 (code := basin_New.code) (by kernel_rfl) [.tmp 2, .tmp 3] (by kernel_rfl) 16 (by kernel_rfl) (basin_New.sk R) (args := [(Value.int .i64 a0)]) (Nat.le_of_ble_eq_true rfl) (by kernel_rfl) (o := basin_New.owed R) (by kernel_rfl) (basin_New.pays R) h

/-! ### (*stopcock/basin.Basin).Put: function 11 -/
def basin_Basin_Put.b1 (t2 : Nat) (t18p : Option Addr) (t18n : Nat) (t18c : Nat) (t19 : Int) (t20 : Int) (w : World) (R : Ending → World → Prop) (C1 : Nat → Option Addr → Nat → Nat → Int → Int → World → Prop) : Prop :=
  cond (decide (t20 < t19)) (
    chk (decide (0 ≤ t20)) (
      chk (decide (t20 < ((t18n : Nat) : Int))) (
        optP t18p fun d1 =>
        ∃ (cs1 : Array Value), cs1.size = 2 ∧ CellsAt w (d1.add (t20.toNat * 2)) cs1.toList ∧
        (newP w #[(Value.int .i64 0), (Value.slice none 0 0)] 47 fun b4 w8 =>
          chk (decide (cs1.size = 2)) (
            Wr w8 (⟨b4, 0, none⟩ : Addr) cs1.toList ∧ ∀ w9, w9 = w8.setCells (⟨b4, 0, none⟩ : Addr).block (⟨b4, 0, none⟩ : Addr).off cs1.toList →
            (∃ (p2 : Option Addr), w9.cell? (⟨t2, 0, none⟩ : Addr) = some (Value.pointer p2) ∧
              (callP Try.prog 29 #[(Value.pointer p2)] w9 (fun v4 w10 =>
                  dB v4 fun b5 =>
                  cond b5 (
                    R (.returned (Value.int .i64 10)) w10) (
                    ∃ (p3 : Option Addr), w10.drew.cell? (⟨t2, 0, none⟩ : Addr) = some (Value.pointer p3) ∧
                    (optP p3 fun d2 =>
                      ∃ (p4 : Option Addr) (n1 : Nat) (c1 : Nat), w10.drew.cell? (d2.add 1) = some (Value.slice p4 n1 c1) ∧
                      (∃ (x2 : Int), w10.drew.cell? (⟨b4, 0, none⟩ : Addr) = some (Value.int .i64 x2) ∧
                        (∃ (p5 : Option Addr) (n2 : Nat) (c2 : Nat), w10.drew.cell? (⟨b4, 1, none⟩ : Addr) = some (Value.slice p5 n2 c2) ∧
                          (chk (decide (64 ≤ n2)) (
                          optP p5 fun d3 =>
                          ∃ (cs2 : Array Value), cs2.size = 64 ∧ CellsAt w10.drew d3 cs2.toList ∧
                          (chk (decide (0 ≤ x2)) (
                          chk (decide (x2 < ((n1 : Nat) : Int))) (
                          optP p4 fun d4 =>
                          chk (decide (cs2.size = 64)) (
                          Wr w10.drew (d4.add (x2.toNat * 64)) cs2.toList ∧ ∀ w12, w12 = w10.drew.setCells (d4.add (x2.toNat * 64)).block (d4.add (x2.toNat * 64)).off cs2.toList →
                          (∃ (p6 : Option Addr), w12.drew.cell? (⟨t2, 0, none⟩ : Addr) = some (Value.pointer p6) ∧
                          (∃ (p7 : Option Addr), w12.drew.cell? (⟨t2, 0, none⟩ : Addr) = some (Value.pointer p7) ∧
                          (optP p7 fun d5 =>
                          ∃ (p8 : Option Addr) (n3 : Nat) (c3 : Nat), w12.drew.cell? (d5.add 2) = some (Value.slice p8 n3 c3) ∧
                          (∃ (x3 : Int), w12.drew.cell? (⟨b4, 0, none⟩ : Addr) = some (Value.int .i64 x3) ∧
                          (∃ (p9 : Option Addr) (n4 : Nat) (c4 : Nat), w12.drew.cell? (⟨b4, 1, none⟩ : Addr) = some (Value.slice p9 n4 c4) ∧
                          (chk (decide (64 ≤ n4)) (
                          optP p9 fun d6 =>
                          ∃ (cs3 : Array Value), cs3.size = 64 ∧ CellsAt w12.drew d6 cs3.toList ∧
                          (optP (Instr.fill (fun i => [(0, 1), (1, 64)].toArray[i]?) #[(Value.int .i64 0), (Value.int .u8 0), (Value.int .u8 0), (Value.int .u8 0), (Value.int .u8 0), (Value.int .u8 0), (Value.int .u8 0), (Value.int .u8 0), (Value.int .u8 0), (Value.int .u8 0), (Value.int .u8 0), (Value.int .u8 0), (Value.int .u8 0), (Value.int .u8 0), (Value.int .u8 0), (Value.int .u8 0), (Value.int .u8 0), (Value.int .u8 0), (Value.int .u8 0), (Value.int .u8 0), (Value.int .u8 0), (Value.int .u8 0), (Value.int .u8 0), (Value.int .u8 0), (Value.int .u8 0), (Value.int .u8 0), (Value.int .u8 0), (Value.int .u8 0), (Value.int .u8 0), (Value.int .u8 0), (Value.int .u8 0), (Value.int .u8 0), (Value.int .u8 0), (Value.int .u8 0), (Value.int .u8 0), (Value.int .u8 0), (Value.int .u8 0), (Value.int .u8 0), (Value.int .u8 0), (Value.int .u8 0), (Value.int .u8 0), (Value.int .u8 0), (Value.int .u8 0), (Value.int .u8 0), (Value.int .u8 0), (Value.int .u8 0), (Value.int .u8 0), (Value.int .u8 0), (Value.int .u8 0), (Value.int .u8 0), (Value.int .u8 0), (Value.int .u8 0), (Value.int .u8 0), (Value.int .u8 0), (Value.int .u8 0), (Value.int .u8 0), (Value.int .u8 0), (Value.int .u8 0), (Value.int .u8 0), (Value.int .u8 0), (Value.int .u8 0), (Value.int .u8 0), (Value.int .u8 0), (Value.int .u8 0), (Value.int .u8 0)] [(0, (Value.int .i64 x3)), (1, (Value.agg cs3))]) fun cs4 =>
                          optP (Instr.fill (fun i => some (i * 65, 65)) (madeCells #[(Value.int .i64 0), (Value.int .u8 0), (Value.int .u8 0), (Value.int .u8 0), (Value.int .u8 0), (Value.int .u8 0), (Value.int .u8 0), (Value.int .u8 0), (Value.int .u8 0), (Value.int .u8 0), (Value.int .u8 0), (Value.int .u8 0), (Value.int .u8 0), (Value.int .u8 0), (Value.int .u8 0), (Value.int .u8 0), (Value.int .u8 0), (Value.int .u8 0), (Value.int .u8 0), (Value.int .u8 0), (Value.int .u8 0), (Value.int .u8 0), (Value.int .u8 0), (Value.int .u8 0), (Value.int .u8 0), (Value.int .u8 0), (Value.int .u8 0), (Value.int .u8 0), (Value.int .u8 0), (Value.int .u8 0), (Value.int .u8 0), (Value.int .u8 0), (Value.int .u8 0), (Value.int .u8 0), (Value.int .u8 0), (Value.int .u8 0), (Value.int .u8 0), (Value.int .u8 0), (Value.int .u8 0), (Value.int .u8 0), (Value.int .u8 0), (Value.int .u8 0), (Value.int .u8 0), (Value.int .u8 0), (Value.int .u8 0), (Value.int .u8 0), (Value.int .u8 0), (Value.int .u8 0), (Value.int .u8 0), (Value.int .u8 0), (Value.int .u8 0), (Value.int .u8 0), (Value.int .u8 0), (Value.int .u8 0), (Value.int .u8 0), (Value.int .u8 0), (Value.int .u8 0), (Value.int .u8 0), (Value.int .u8 0), (Value.int .u8 0), (Value.int .u8 0), (Value.int .u8 0), (Value.int .u8 0), (Value.int .u8 0), (Value.int .u8 0)] (1 * 65)) [(0, (Value.agg cs4))]) fun cs5 =>
                          newP w12.drew cs5 75 fun b6 w13 =>
                          w13.cell? (d5.add 2) = some (Value.slice p8 n3 c3) ∧
                          (w13.cell? (⟨t2, 0, none⟩ : Addr) = some (Value.pointer p7) ∧
                          (w13.cell? (⟨t2, 0, none⟩ : Addr) = some (Value.pointer p6) ∧
                          (appP w13 p8 n3 c3 1 (CellsO w13 (some ⟨b6, 0, none⟩)) 75 65 72 #[(Value.int .i64 0), (Value.int .u8 0), (Value.int .u8 0), (Value.int .u8 0), (Value.int .u8 0), (Value.int .u8 0), (Value.int .u8 0), (Value.int .u8 0), (Value.int .u8 0), (Value.int .u8 0), (Value.int .u8 0), (Value.int .u8 0), (Value.int .u8 0), (Value.int .u8 0), (Value.int .u8 0), (Value.int .u8 0), (Value.int .u8 0), (Value.int .u8 0), (Value.int .u8 0), (Value.int .u8 0), (Value.int .u8 0), (Value.int .u8 0), (Value.int .u8 0), (Value.int .u8 0), (Value.int .u8 0), (Value.int .u8 0), (Value.int .u8 0), (Value.int .u8 0), (Value.int .u8 0), (Value.int .u8 0), (Value.int .u8 0), (Value.int .u8 0), (Value.int .u8 0), (Value.int .u8 0), (Value.int .u8 0), (Value.int .u8 0), (Value.int .u8 0), (Value.int .u8 0), (Value.int .u8 0), (Value.int .u8 0), (Value.int .u8 0), (Value.int .u8 0), (Value.int .u8 0), (Value.int .u8 0), (Value.int .u8 0), (Value.int .u8 0), (Value.int .u8 0), (Value.int .u8 0), (Value.int .u8 0), (Value.int .u8 0), (Value.int .u8 0), (Value.int .u8 0), (Value.int .u8 0), (Value.int .u8 0), (Value.int .u8 0), (Value.int .u8 0), (Value.int .u8 0), (Value.int .u8 0), (Value.int .u8 0), (Value.int .u8 0), (Value.int .u8 0), (Value.int .u8 0), (Value.int .u8 0), (Value.int .u8 0), (Value.int .u8 0)] fun p10 c5 w14 =>
                          w14.cell? (⟨t2, 0, none⟩ : Addr) = some (Value.pointer p6) ∧
                          (optP p6 fun d7 =>
                          (w14.cell? (d7.add 2)).isSome = true ∧ w14.frozen? (d7.add 2) = false ∧ ∀ w15, w15 = w14.setCell (d7.add 2) (Value.slice p10 (n3 + 1) c5) →
                          (C1 t2 t18p t18n t18c t19 (IntKind.i64.wrap (t20 + 1)) w15)))))))))))))))))))))))) (fun ch w11 => R (.panicked ch) w11)))))))) (
    R (.returned (Value.int .i64 0)) w)
def basin_Basin_Put.l1 (t2 : Nat) (t18p : Option Addr) (t18n : Nat) (t18c : Nat) (t19 : Int) (t20 : Int) (w : World) (R : Ending → World → Prop) : Prop :=
  ∃ (I : Nat → Option Addr → Nat → Nat → Int → Int → World → Prop) (m : Nat → Option Addr → Nat → Nat → Int → Int → World → Nat), I t2 t18p t18n t18c t19 t20 w ∧
  ∀ (t2 : Nat) (t18p : Option Addr) (t18n : Nat) (t18c : Nat) (t19 : Int) (t20 : Int) (w : World), I t2 t18p t18n t18c t19 t20 w →
  basin_Basin_Put.b1 t2 t18p t18n t18c t19 t20 w R (fun t2' t18p' t18n' t18c' t19' t20' w' => I t2' t18p' t18n' t18c' t19' t20' w' ∧ m t2' t18p' t18n' t18c' t19' t20' w' < m t2 t18p t18n t18c t19 t20 w)
def basin_Basin_Put.main (a0 : Option Addr) (a1p : Option Addr) (a1n : Nat) (a1c : Nat) (w : World) (R : Ending → World → Prop) : Prop :=
  newP w #[(Value.pointer a0)] 23 fun b1 w1 =>
  ∃ (p1 : Option Addr), w1.cell? (⟨b1, 0, none⟩ : Addr) = some (Value.pointer p1) ∧
  (callP Try.prog 25 #[(Value.pointer p1)] w1 (fun v1 w2 =>
      dI .i64 v1 fun x1 =>
      cond (x1 != 0) (
        R (.returned (Value.int .i64 x1)) w2) (
        callP Try.prog 26 #[(Value.slice a1p a1n a1c), (Value.func (.func 27) #[] #[])] w2 (fun v2 w4 =>
          dB v2 fun b2 =>
          cond b2 (
            R (.returned (Value.int .i64 6)) w4) (
            callP Try.prog 26 #[(Value.slice a1p a1n a1c), (Value.func (.func 28) #[] #[(Value.pointer (some (⟨b1, 0, none⟩ : Addr)))])] w4 (fun v3 w6 =>
              dB v3 fun b3 =>
              cond b3 (
                R (.returned (Value.int .i64 5)) w6) (
                basin_Basin_Put.l1 b1 a1p a1n a1c ((a1n : Nat) : Int) 0 w6 R)) (fun ch w7 => R (.panicked ch) w7))) (fun ch w5 => R (.panicked ch) w5))) (fun ch w3 => R (.panicked ch) w3))
abbrev basin_Basin_Put.C (a0 : Option Addr) (a1p : Option Addr) (a1n : Nat) (a1c : Nat) (w : World) (R : Ending → World → Prop) : Prop := Calls Try.prog 11 #[(Value.pointer a0), (Value.slice a1p a1n a1c)] w R
noncomputable def basin_Basin_Put.code : Code := (Try.f11.body).getD .skip
noncomputable def basin_Basin_Put.sk (R : Ending → World → Prop) : Sk := (.seq .leaf (.seq .leaf (.seq .leaf (.seq .leaf (.seq (.seq .leaf (.block (.loop [(2, .blk), (18, .slice), (19, .int .i64), (20, .int .i64)] (fun (t2 : Nat) (t18p : Option Addr) (t18n : Nat) (t18c : Nat) (t19 : Int) (t20 : Int) (w : World) => basin_Basin_Put.l1 t2 t18p t18n t18c t19 t20 w R) (fun (C1 : Nat → Option Addr → Nat → Nat → Int → Int → World → Prop) => .leaf)))) .leaf)))))
def basin_Basin_Put.owed (R : Ending → World → Prop) : Prop :=
  (∀ (t2 : Nat) (t18p : Option Addr) (t18n : Nat) (t18c : Nat) (t19 : Int) (t20 : Int) (w : World), basin_Basin_Put.l1 t2 t18p t18n t18c t19 t20 w R → basin_Basin_Put.l1 t2 t18p t18n t18c t19 t20 w R) ∧ (∀ (C1 : Nat → Option Addr → Nat → Nat → Int → Int → World → Prop), True) ∧ True
theorem basin_Basin_Put.pays (R : Ending → World → Prop) : basin_Basin_Put.owed R := ⟨(fun _ _ _ _ _ _ _ h => h), (fun _ => trivial), trivial⟩
set_option maxRecDepth 100000 in
theorem basin_Basin_Put.ok {a0 : Option Addr} {a1p : Option Addr} {a1n : Nat} {a1c : Nat} {w : World} {R : Ending → World → Prop} (h : basin_Basin_Put.main a0 a1p a1n a1c w R) : basin_Basin_Put.C a0 a1p a1n a1c w R :=
  ev_ok cxok (c := cx) Try.func11 (code := basin_Basin_Put.code) (by kernel_rfl) [.tmp 4] (by kernel_rfl) 54 (by kernel_rfl) (basin_Basin_Put.sk R) (args := [(Value.pointer a0), (Value.slice a1p a1n a1c)]) (Nat.le_of_ble_eq_true rfl) (by kernel_rfl) (o := basin_Basin_Put.owed R) (by kernel_rfl) (basin_Basin_Put.pays R) h

/-! ### stopcock/slate.Save: function 12 -/
def slate_Save.k1 (t0 : Option Addr) (t9p : Option Addr) (t9n : Nat) (t9c : Nat) (t11 : Int) (w : World) (R : Ending → World → Prop) : Prop :=
  callP Try.prog 31 #[(Value.pointer t0)] w (fun v6 w10 =>
    dI .i64 v6 fun x4 =>
    cond (x4 != 0) (
      R (.returned (Value.int .i64 x4)) w10) (
      chk (decide (0 < ((t9n : Nat) : Int))) (
        optP t9p fun d2 =>
        ∃ (p3 : Option Addr) (n3 : Nat) (c3 : Nat), w10.cell? d2 = some (Value.slice p3 n3 c3) ∧
        (newP w10 #[(Value.int .i64 t11), (Value.slice p3 n3 c3)] 47 fun b4 w12 =>
          callP Try.prog 11 #[(Value.pointer t0), (Value.slice (some ⟨b4, 0, none⟩) 1 1)] w12 (fun v7 w13 =>
            dI .i64 v7 fun x5 =>
            cond (x5 != 0) (
              R (.returned (Value.int .i64 x5)) w13) (
              callP Try.prog 31 #[(Value.pointer t0)] w13 (fun v8 w15 =>
                dI .i64 v8 fun x6 =>
                R (.returned (Value.int .i64 x6)) w15) (fun ch w16 => R (.panicked ch) w16))) (fun ch w14 => R (.panicked ch) w14))))) (fun ch w11 => R (.panicked ch) w11)
def slate_Save.b1 (t0 : Option Addr) (t9p : Option Addr) (t9n : Nat) (t9c : Nat) (t11 : Int) (t32p : Option Addr) (t32n : Nat) (t32c : Nat) (t33 : Int) (t34 : Int) (w : World) (R : Ending → World → Prop) (C1 : Option Addr → Option Addr → Nat → Nat → Int → Option Addr → Nat → Nat → Int → Int → World → Prop) : Prop :=
  cond (decide (t34 < t33)) (
    chk (decide (0 ≤ t34)) (
      chk (decide (t34 < ((t32n : Nat) : Int))) (
        optP t32p fun d1 =>
        ∃ (p2 : Option Addr) (n2 : Nat) (c2 : Nat), w.cell? (d1.add (t34.toNat * 1)) = some (Value.slice p2 n2 c2) ∧
        (newP w #[(Value.int .i64 (IntKind.i64.wrap ((IntKind.i64.wrap (t11 + 1)) + t34))), (Value.slice p2 n2 c2)] 47 fun b3 w7 =>
          callP Try.prog 11 #[(Value.pointer t0), (Value.slice (some ⟨b3, 0, none⟩) 1 1)] w7 (fun v5 w8 =>
            dI .i64 v5 fun x3 =>
            cond (x3 != 0) (
              R (.returned (Value.int .i64 x3)) w8) (
              C1 t0 t9p t9n t9c t11 t32p t32n t32c t33 (IntKind.i64.wrap (t34 + 1)) w8)) (fun ch w9 => R (.panicked ch) w9))))) (
    slate_Save.k1 t0 t9p t9n t9c t11 w R)
def slate_Save.l1 (t0 : Option Addr) (t9p : Option Addr) (t9n : Nat) (t9c : Nat) (t11 : Int) (t32p : Option Addr) (t32n : Nat) (t32c : Nat) (t33 : Int) (t34 : Int) (w : World) (R : Ending → World → Prop) : Prop :=
  ∃ (I : Option Addr → Option Addr → Nat → Nat → Int → Option Addr → Nat → Nat → Int → Int → World → Prop) (m : Option Addr → Option Addr → Nat → Nat → Int → Option Addr → Nat → Nat → Int → Int → World → Nat), I t0 t9p t9n t9c t11 t32p t32n t32c t33 t34 w ∧
  ∀ (t0 : Option Addr) (t9p : Option Addr) (t9n : Nat) (t9c : Nat) (t11 : Int) (t32p : Option Addr) (t32n : Nat) (t32c : Nat) (t33 : Int) (t34 : Int) (w : World), I t0 t9p t9n t9c t11 t32p t32n t32c t33 t34 w →
  slate_Save.b1 t0 t9p t9n t9c t11 t32p t32n t32c t33 t34 w R (fun t0' t9p' t9n' t9c' t11' t32p' t32n' t32c' t33' t34' w' => I t0' t9p' t9n' t9c' t11' t32p' t32n' t32c' t33' t34' w' ∧ m t0' t9p' t9n' t9c' t11' t32p' t32n' t32c' t33' t34' w' < m t0 t9p t9n t9c t11 t32p t32n t32c t33 t34 w)
def slate_Save.main (a0 : Option Addr) (a1 : Array Value) (a2_0 : Int) (a2_1 : Int) (a3 : Int) (w : World) (R : Ending → World → Prop) : Prop :=
  newP w a1 32 fun b1 w1 =>
  newP w1 #[(Value.int .i64 a2_0), (Value.int .i64 a2_1)] 34 fun b2 w2 =>
  cond (Option.isNone a0) (
    R (.returned (Value.int .i64 1)) w2) (
    ∃ (cs1 : Array Value), cs1.size = 24 ∧ CellsAt w2 (⟨b1, 0, none⟩ : Addr) cs1.toList ∧
    (∃ (cs2 : Array Value), cs2.size = 2 ∧ CellsAt w2 (⟨b2, 0, none⟩ : Addr) cs2.toList ∧
      (callP Try.prog 30 #[(Value.agg cs1), (Value.agg cs2), (Value.int .i64 a3)] w2 (fun v1 w3 =>
          dT v1 fun vs1 =>
          optP (vs1[0]?) fun v2 =>
          dS v2 fun p1 n1 c1 =>
          optP (vs1[1]?) fun v3 =>
          dI .i64 v3 fun x1 =>
          cond (x1 != 0) (
            R (.returned (Value.int .i64 x1)) w3) (
            callP Try.prog 15 #[(Value.int .i64 a3)] w3 (fun v4 w5 =>
              dI .i64 v4 fun x2 =>
              chk (decide (1 ≤ ((n1 : Nat) : Int))) (
                slate_Save.l1 a0 p1 n1 c1 x2 (slA p1 c1 1 1) (n1 - 1) (c1 - 1) (((n1 - 1) : Nat) : Int) 0 w5 R)) (fun ch w6 => R (.panicked ch) w6))) (fun ch w4 => R (.panicked ch) w4))))
abbrev slate_Save.C (a0 : Option Addr) (a1 : Array Value) (a2_0 : Int) (a2_1 : Int) (a3 : Int) (w : World) (R : Ending → World → Prop) : Prop := Calls Try.prog 12 #[(Value.pointer a0), (Value.agg a1), (Value.agg #[(Value.int .i64 a2_0), (Value.int .i64 a2_1)]), (Value.int .i64 a3)] w R
noncomputable def slate_Save.code : Code := (Try.f12.body).getD .skip
noncomputable def slate_Save.sk (R : Ending → World → Prop) : Sk := (.seq .leaf (.seq .leaf (.seq .leaf (.seq .leaf (.seq .leaf (.cut [(0, .ptr), (9, .slice), (11, .int .i64)] (fun (t0 : Option Addr) (t9p : Option Addr) (t9n : Nat) (t9c : Nat) (t11 : Int) (w : World) => slate_Save.k1 t0 t9p t9n t9c t11 w R) (.seq .leaf (.block (.loop [(0, .ptr), (9, .slice), (11, .int .i64), (32, .slice), (33, .int .i64), (34, .int .i64)] (fun (t0 : Option Addr) (t9p : Option Addr) (t9n : Nat) (t9c : Nat) (t11 : Int) (t32p : Option Addr) (t32n : Nat) (t32c : Nat) (t33 : Int) (t34 : Int) (w : World) => slate_Save.l1 t0 t9p t9n t9c t11 t32p t32n t32c t33 t34 w R) (fun (C1 : Option Addr → Option Addr → Nat → Nat → Int → Option Addr → Nat → Nat → Int → Int → World → Prop) => .leaf)))) .leaf))))))
def slate_Save.owed (R : Ending → World → Prop) : Prop :=
  (∀ (t0 : Option Addr) (t9p : Option Addr) (t9n : Nat) (t9c : Nat) (t11 : Int) (t32p : Option Addr) (t32n : Nat) (t32c : Nat) (t33 : Int) (t34 : Int) (w : World), slate_Save.l1 t0 t9p t9n t9c t11 t32p t32n t32c t33 t34 w R → slate_Save.l1 t0 t9p t9n t9c t11 t32p t32n t32c t33 t34 w R) ∧ (∀ (C1 : Option Addr → Option Addr → Nat → Nat → Int → Option Addr → Nat → Nat → Int → Int → World → Prop), True) ∧ (∀ (t0 : Option Addr) (t9p : Option Addr) (t9n : Nat) (t9c : Nat) (t11 : Int) (w : World), slate_Save.k1 t0 t9p t9n t9c t11 w R → slate_Save.k1 t0 t9p t9n t9c t11 w R) ∧ True
theorem slate_Save.pays (R : Ending → World → Prop) : slate_Save.owed R := ⟨(fun _ _ _ _ _ _ _ _ _ _ _ h => h), (fun _ => trivial), (fun _ _ _ _ _ _ h => h), trivial⟩
set_option maxRecDepth 100000 in
theorem slate_Save.ok {a0 : Option Addr} {a1 : Array Value} {a2_0 : Int} {a2_1 : Int} {a3 : Int} {w : World} {R : Ending → World → Prop} (h : slate_Save.main a0 a1 a2_0 a2_1 a3 w R) : slate_Save.C a0 a1 a2_0 a2_1 a3 w R :=
  ev_ok cxok (c := cx) Try.func12 (code := slate_Save.code) (by kernel_rfl) [.tmp 8] (by kernel_rfl) 70 (by kernel_rfl) (slate_Save.sk R) (args := [(Value.pointer a0), (Value.agg a1), (Value.agg #[(Value.int .i64 a2_0), (Value.int .i64 a2_1)]), (Value.int .i64 a3)]) (Nat.le_of_ble_eq_true rfl) (by kernel_rfl) (o := slate_Save.owed R) (by kernel_rfl) (slate_Save.pays R) h

/-! ### stopcock/stopcockref07.Sound: function 13 -/
def stopcockref07_Sound.b2 (t1 : Nat) (t3 : Int) (t5 : Int) (t23 : Nat) (t24 : Int) (t25 : Bool) (t28 : Nat) (t29 : Int) (t30 : Bool) (t33 : Nat) (t34 : Int) (t35 : Bool) (t36 : Bool) (t40 : Bool) (t43 : Nat) (t44 : Int) (t45 : Bool) (t46 : Bool) (t55 : Bool) (w : World) (R : Ending → World → Prop) (C1 : Nat → Int → World → Prop) (C2 : Nat → Int → Int → Nat → Int → Bool → Nat → Int → Bool → Nat → Int → Bool → Bool → Bool → Nat → Int → Bool → Bool → Bool → World → Prop) : Prop :=
  chk (decide (0 ≤ t3)) (
    chk (decide (t3 < (8 : Int))) (
      ∃ (p2 : Option Addr) (n2 : Nat) (c2 : Nat), w.cell? ((⟨t1, 16, none⟩ : Addr).add (t3.toNat * 1)) = some (Value.slice p2 n2 c2) ∧
      (cond (decide (t5 < ((n2 : Nat) : Int))) (
          chk (decide (0 ≤ t3)) (
            chk (decide (t3 < (8 : Int))) (
              ∃ (p3 : Option Addr) (n3 : Nat) (c3 : Nat), w.cell? ((⟨t1, 16, none⟩ : Addr).add (t3.toNat * 1)) = some (Value.slice p3 n3 c3) ∧
              (chk (decide (0 ≤ t5)) (
                  chk (decide (t5 < ((n3 : Nat) : Int))) (
                    optP p3 fun d1 =>
                    ∃ (r1 : Nat) (m1 : Nat), w.cell? (d1.add (t5.toNat * 1)) = some (Value.complex .f64 r1 m1) ∧
                    (cond (!(fCmp .eql r1 13830554455654793216 && fCmp .eql m1 0)) (
                        chk (decide (0 ≤ t3)) (
                          chk (decide (t3 < (8 : Int))) (
                          ∃ (p4 : Option Addr) (n4 : Nat) (c4 : Nat), w.cell? ((⟨t1, 16, none⟩ : Addr).add (t3.toNat * 1)) = some (Value.slice p4 n4 c4) ∧
                          (chk (decide (0 ≤ t5)) (
                          chk (decide (t5 < ((n4 : Nat) : Int))) (
                          optP p4 fun d2 =>
                          ∃ (r2 : Nat) (m2 : Nat), w.cell? (d2.add (t5.toNat * 1)) = some (Value.complex .f64 r2 m2) ∧
                          (callP Try.prog 32 #[(Value.complex .f64 r2 m2)] w (fun v1 w4 =>
                          dB v1 fun b3 =>
                          cond (!b3) (
                          R (.returned (Value.bool false)) w4) (
                          C2 t1 t3 (IntKind.i64.wrap (t5 + 1)) t23 t24 t25 t28 t29 t30 t33 t34 t35 t36 t40 t43 t44 t45 t46 t55 w4)) (fun ch w5 => R (.panicked ch) w5)))))))) (
                        C2 t1 t3 (IntKind.i64.wrap (t5 + 1)) t23 t24 t25 t28 t29 t30 t33 t34 t35 t36 t40 t43 t44 t45 t46 t55 w)))))))) (
          C1 t1 (IntKind.i64.wrap (t3 + 1)) w))))
def stopcockref07_Sound.l2 (t1 : Nat) (t3 : Int) (t5 : Int) (t23 : Nat) (t24 : Int) (t25 : Bool) (t28 : Nat) (t29 : Int) (t30 : Bool) (t33 : Nat) (t34 : Int) (t35 : Bool) (t36 : Bool) (t40 : Bool) (t43 : Nat) (t44 : Int) (t45 : Bool) (t46 : Bool) (t55 : Bool) (w : World) (R : Ending → World → Prop) (C1 : Nat → Int → World → Prop) : Prop :=
  ∃ (I : Nat → Int → Int → Nat → Int → Bool → Nat → Int → Bool → Nat → Int → Bool → Bool → Bool → Nat → Int → Bool → Bool → Bool → World → Prop) (m : Nat → Int → Int → Nat → Int → Bool → Nat → Int → Bool → Nat → Int → Bool → Bool → Bool → Nat → Int → Bool → Bool → Bool → World → Nat), I t1 t3 t5 t23 t24 t25 t28 t29 t30 t33 t34 t35 t36 t40 t43 t44 t45 t46 t55 w ∧
  ∀ (t1 : Nat) (t3 : Int) (t5 : Int) (t23 : Nat) (t24 : Int) (t25 : Bool) (t28 : Nat) (t29 : Int) (t30 : Bool) (t33 : Nat) (t34 : Int) (t35 : Bool) (t36 : Bool) (t40 : Bool) (t43 : Nat) (t44 : Int) (t45 : Bool) (t46 : Bool) (t55 : Bool) (w : World), I t1 t3 t5 t23 t24 t25 t28 t29 t30 t33 t34 t35 t36 t40 t43 t44 t45 t46 t55 w →
  stopcockref07_Sound.b2 t1 t3 t5 t23 t24 t25 t28 t29 t30 t33 t34 t35 t36 t40 t43 t44 t45 t46 t55 w R C1 (fun t1' t3' t5' t23' t24' t25' t28' t29' t30' t33' t34' t35' t36' t40' t43' t44' t45' t46' t55' w' => I t1' t3' t5' t23' t24' t25' t28' t29' t30' t33' t34' t35' t36' t40' t43' t44' t45' t46' t55' w' ∧ m t1' t3' t5' t23' t24' t25' t28' t29' t30' t33' t34' t35' t36' t40' t43' t44' t45' t46' t55' w' < m t1 t3 t5 t23 t24 t25 t28 t29 t30 t33 t34 t35 t36 t40 t43 t44 t45 t46 t55 w)
def stopcockref07_Sound.k1 (t1 : Nat) (t3 : Int) (t23 : Nat) (t24 : Int) (t25 : Bool) (t28 : Nat) (t29 : Int) (t30 : Bool) (t33 : Nat) (t34 : Int) (t35 : Bool) (t36 : Bool) (t40 : Bool) (t43 : Nat) (t44 : Int) (t45 : Bool) (t46 : Bool) (t55 : Bool) (w : World) (R : Ending → World → Prop) (C1 : Nat → Int → World → Prop) : Prop :=
  stopcockref07_Sound.l2 t1 t3 0 t23 t24 t25 t28 t29 t30 t33 t34 t35 t36 t40 t43 t44 t45 t46 t55 w R C1
def stopcockref07_Sound.b1 (t1 : Nat) (t3 : Int) (w : World) (R : Ending → World → Prop) (C1 : Nat → Int → World → Prop) : Prop :=
  cond (decide (t3 < 8)) (
    chk (decide (0 ≤ t3)) (
      chk (decide (t3 < (8 : Int))) (
        ∃ (cs1 : Array Value), cs1.size = 2 ∧ CellsAt w ((⟨t1, 0, none⟩ : Addr).add (t3.toNat * 2)) cs1.toList ∧
        (newP w #[(Value.int .i64 0), (Value.int .i64 0)] 27 fun b2 w2 =>
          chk (decide (cs1.size = 2)) (
            Wr w2 (⟨b2, 0, none⟩ : Addr) cs1.toList ∧ ∀ w3, w3 = w2.setCells (⟨b2, 0, none⟩ : Addr).block (⟨b2, 0, none⟩ : Addr).off cs1.toList →
            (chk (decide (0 ≤ t3)) (
                chk (decide (t3 < (8 : Int))) (
                  ∃ (p1 : Option Addr) (n1 : Nat) (c1 : Nat), w3.cell? ((⟨t1, 16, none⟩ : Addr).add (t3.toNat * 1)) = some (Value.slice p1 n1 c1) ∧
                  (∃ (x1 : Int), w3.cell? (⟨b2, 1, none⟩ : Addr) = some (Value.int .i64 x1) ∧
                    (cond (((n1 : Nat) : Int) != x1) (
                        ∀ k1 : Nat,
                        R (.returned (Value.bool false)) (w3.drewN k1)) (
                        ∃ (x2 : Int), w3.cell? (⟨b2, 0, none⟩ : Addr) = some (Value.int .i64 x2) ∧
                        (cond (decide (x2 < 0)) (
                          ∀ k1 : Nat,
                          R (.returned (Value.bool false)) (w3.drewN k1)) (
                          ∃ (x3 : Int), w3.cell? (⟨b2, 0, none⟩ : Addr) = some (Value.int .i64 x3) ∧
                          (cond (decide (x3 > 2)) (
                          ∀ k1 : Nat,
                          R (.returned (Value.bool false)) (w3.drewN k1)) (
                          ∃ (x4 : Int), w3.cell? (⟨b2, 0, none⟩ : Addr) = some (Value.int .i64 x4) ∧
                          (cond (x4 == 0) (
                          ∃ (x5 : Int), w3.cell? (⟨b2, 1, none⟩ : Addr) = some (Value.int .i64 x5) ∧
                          (cond (x5 != 0) (
                          ∀ k1 : Nat,
                          R (.returned (Value.bool false)) (w3.drewN k1)) (
                          ∃ (x6 : Int), w3.cell? (⟨b2, 0, none⟩ : Addr) = some (Value.int .i64 x6) ∧
                          (cond (decide (x6 > 0)) (
                          ∃ (x7 : Int), w3.cell? (⟨b2, 1, none⟩ : Addr) = some (Value.int .i64 x7) ∧
                          (cond (decide (x7 < 1)) (
                          ∀ k1 : Nat,
                          R (.returned (Value.bool false)) (w3.drewN k1)) (
                          ∃ (x8 : Int), w3.cell? (⟨b2, 1, none⟩ : Addr) = some (Value.int .i64 x8) ∧
                          (∀ k1 : Nat,
                          cond (decide (x8 > 32)) (
                          R (.returned (Value.bool false)) (w3.drewN k1)) (
                          stopcockref07_Sound.k1 t1 t3 b2 x2 (decide (x2 < 0)) b2 x3 (decide (x3 > 2)) b2 x4 (x4 == 0) true (x5 != 0) b2 x6 (decide (x6 > 0)) true (decide (x8 > 32)) (w3.drewN k1) R C1))))) (
                          ∀ k1 : Nat,
                          stopcockref07_Sound.k1 t1 t3 b2 x2 (decide (x2 < 0)) b2 x3 (decide (x3 > 2)) b2 x4 (x4 == 0) true (x5 != 0) b2 x6 (decide (x6 > 0)) false false (w3.drewN k1) R C1))))) (
                          ∃ (x9 : Int), w3.cell? (⟨b2, 0, none⟩ : Addr) = some (Value.int .i64 x9) ∧
                          (cond (decide (x9 > 0)) (
                          ∃ (x10 : Int), w3.cell? (⟨b2, 1, none⟩ : Addr) = some (Value.int .i64 x10) ∧
                          (cond (decide (x10 < 1)) (
                          ∀ k1 : Nat,
                          R (.returned (Value.bool false)) (w3.drewN k1)) (
                          ∃ (x11 : Int), w3.cell? (⟨b2, 1, none⟩ : Addr) = some (Value.int .i64 x11) ∧
                          (∀ k1 : Nat,
                          cond (decide (x11 > 32)) (
                          R (.returned (Value.bool false)) (w3.drewN k1)) (
                          stopcockref07_Sound.k1 t1 t3 b2 x2 (decide (x2 < 0)) b2 x3 (decide (x3 > 2)) b2 x4 (x4 == 0) false false b2 x9 (decide (x9 > 0)) true (decide (x11 > 32)) (w3.drewN k1) R C1))))) (
                          ∀ k1 : Nat,
                          stopcockref07_Sound.k1 t1 t3 b2 x2 (decide (x2 < 0)) b2 x3 (decide (x3 > 2)) b2 x4 (x4 == 0) false false b2 x9 (decide (x9 > 0)) false false (w3.drewN k1) R C1))))))))))))))))))) (
    R (.returned (Value.bool true)) w)
def stopcockref07_Sound.l1 (t1 : Nat) (t3 : Int) (w : World) (R : Ending → World → Prop) : Prop :=
  ∃ (I : Nat → Int → World → Prop) (m : Nat → Int → World → Nat), I t1 t3 w ∧
  ∀ (t1 : Nat) (t3 : Int) (w : World), I t1 t3 w →
  stopcockref07_Sound.b1 t1 t3 w R (fun t1' t3' w' => I t1' t3' w' ∧ m t1' t3' w' < m t1 t3 w)
def stopcockref07_Sound.main (a0 : Array Value) (w : World) (R : Ending → World → Prop) : Prop :=
  newP w a0 32 fun b1 w1 =>
  stopcockref07_Sound.l1 b1 0 w1 R
abbrev stopcockref07_Sound.C (a0 : Array Value) (w : World) (R : Ending → World → Prop) : Prop := Calls Try.prog 13 #[(Value.agg a0)] w R
noncomputable def stopcockref07_Sound.code : Code := (Try.f13.body).getD .skip
noncomputable def stopcockref07_Sound.sk (R : Ending → World → Prop) : Sk := (.seq .leaf (.seq (.seq .leaf (.block (.loop [(1, .blk), (3, .int .i64)] (fun (t1 : Nat) (t3 : Int) (w : World) => stopcockref07_Sound.l1 t1 t3 w R) (fun (C1 : Nat → Int → World → Prop) => (.seq .leaf (.seq (.block (.seq .leaf (.cut [(1, .blk), (3, .int .i64), (23, .blk), (24, .int .i64), (25, .bool), (28, .blk), (29, .int .i64), (30, .bool), (33, .blk), (34, .int .i64), (35, .bool), (36, .bool), (40, .bool), (43, .blk), (44, .int .i64), (45, .bool), (46, .bool), (55, .bool)] (fun (t1 : Nat) (t3 : Int) (t23 : Nat) (t24 : Int) (t25 : Bool) (t28 : Nat) (t29 : Int) (t30 : Bool) (t33 : Nat) (t34 : Int) (t35 : Bool) (t36 : Bool) (t40 : Bool) (t43 : Nat) (t44 : Int) (t45 : Bool) (t46 : Bool) (t55 : Bool) (w : World) => stopcockref07_Sound.k1 t1 t3 t23 t24 t25 t28 t29 t30 t33 t34 t35 t36 t40 t43 t44 t45 t46 t55 w R C1) .leaf (.seq .leaf (.block (.loop [(1, .blk), (3, .int .i64), (5, .int .i64), (23, .blk), (24, .int .i64), (25, .bool), (28, .blk), (29, .int .i64), (30, .bool), (33, .blk), (34, .int .i64), (35, .bool), (36, .bool), (40, .bool), (43, .blk), (44, .int .i64), (45, .bool), (46, .bool), (55, .bool)] (fun (t1 : Nat) (t3 : Int) (t5 : Int) (t23 : Nat) (t24 : Int) (t25 : Bool) (t28 : Nat) (t29 : Int) (t30 : Bool) (t33 : Nat) (t34 : Int) (t35 : Bool) (t36 : Bool) (t40 : Bool) (t43 : Nat) (t44 : Int) (t45 : Bool) (t46 : Bool) (t55 : Bool) (w : World) => stopcockref07_Sound.l2 t1 t3 t5 t23 t24 t25 t28 t29 t30 t33 t34 t35 t36 t40 t43 t44 t45 t46 t55 w R C1) (fun (C2 : Nat → Int → Int → Nat → Int → Bool → Nat → Int → Bool → Nat → Int → Bool → Bool → Bool → Nat → Int → Bool → Bool → Bool → World → Prop) => .leaf))))))) .leaf)))))) .leaf))
def stopcockref07_Sound.owed (R : Ending → World → Prop) : Prop :=
  (∀ (t1 : Nat) (t3 : Int) (w : World), stopcockref07_Sound.l1 t1 t3 w R → stopcockref07_Sound.l1 t1 t3 w R) ∧ (∀ (C1 : Nat → Int → World → Prop), (∀ (t1 : Nat) (t3 : Int) (t23 : Nat) (t24 : Int) (t25 : Bool) (t28 : Nat) (t29 : Int) (t30 : Bool) (t33 : Nat) (t34 : Int) (t35 : Bool) (t36 : Bool) (t40 : Bool) (t43 : Nat) (t44 : Int) (t45 : Bool) (t46 : Bool) (t55 : Bool) (w : World), stopcockref07_Sound.k1 t1 t3 t23 t24 t25 t28 t29 t30 t33 t34 t35 t36 t40 t43 t44 t45 t46 t55 w R C1 → stopcockref07_Sound.k1 t1 t3 t23 t24 t25 t28 t29 t30 t33 t34 t35 t36 t40 t43 t44 t45 t46 t55 w R C1) ∧ (∀ (t1 : Nat) (t3 : Int) (t5 : Int) (t23 : Nat) (t24 : Int) (t25 : Bool) (t28 : Nat) (t29 : Int) (t30 : Bool) (t33 : Nat) (t34 : Int) (t35 : Bool) (t36 : Bool) (t40 : Bool) (t43 : Nat) (t44 : Int) (t45 : Bool) (t46 : Bool) (t55 : Bool) (w : World), stopcockref07_Sound.l2 t1 t3 t5 t23 t24 t25 t28 t29 t30 t33 t34 t35 t36 t40 t43 t44 t45 t46 t55 w R C1 → stopcockref07_Sound.l2 t1 t3 t5 t23 t24 t25 t28 t29 t30 t33 t34 t35 t36 t40 t43 t44 t45 t46 t55 w R C1) ∧ (∀ (C2 : Nat → Int → Int → Nat → Int → Bool → Nat → Int → Bool → Nat → Int → Bool → Bool → Bool → Nat → Int → Bool → Bool → Bool → World → Prop), True) ∧ True) ∧ True
theorem stopcockref07_Sound.pays (R : Ending → World → Prop) : stopcockref07_Sound.owed R := ⟨(fun _ _ _ h => h), (fun _ => ⟨(fun _ _ _ _ _ _ _ _ _ _ _ _ _ _ _ _ _ _ _ h => h), (fun _ _ _ _ _ _ _ _ _ _ _ _ _ _ _ _ _ _ _ _ h => h), (fun _ => trivial), trivial⟩), trivial⟩
set_option maxRecDepth 100000 in
theorem stopcockref07_Sound.ok {a0 : Array Value} {w : World} {R : Ending → World → Prop} (h : stopcockref07_Sound.main a0 w R) : stopcockref07_Sound.C a0 w R :=
  ev_ok cxok (c := cx) Try.func13 (code := stopcockref07_Sound.code) (by kernel_rfl) [.tmp 2] (by kernel_rfl) 85 (by kernel_rfl) (stopcockref07_Sound.sk R) (args := [(Value.agg a0)]) (Nat.le_of_ble_eq_true rfl) (by kernel_rfl) (o := stopcockref07_Sound.owed R) (by kernel_rfl) (stopcockref07_Sound.pays R) h

/-! ### stopcock/slate.pages: function 14 -/
def slate_pages.b1 (t0 : Option Addr) (t1 : Int) (t10p : Option Addr) (t10n : Nat) (t10c : Nat) (t39 : Int) (t40 : Int) (w : World) (R : Ending → World → Prop) (C1 : Option Addr → Int → Option Addr → Nat → Nat → Int → Int → World → Prop) : Prop :=
  cond (decide (t40 < t39)) (
    callP Try.prog 21 #[(Value.pointer t0), (Value.int .i64 (IntKind.i64.wrap ((IntKind.i64.wrap (t1 + 1)) + t40)))] w (fun v9 w8 =>
      dT v9 fun vs3 =>
      optP (vs3[0]?) fun v10 =>
      dS v10 fun p2 n2 c2 =>
      optP (vs3[1]?) fun v11 =>
      dI .i64 v11 fun x6 =>
      cond (x6 != 0) (
        R (.returned (Value.tuple #[(Value.slice none 0 0), (Value.int .i64 x6)])) w8) (
        newP w8 #[(Value.slice p2 n2 c2)] 44 fun b2 w10 =>
        appP w10 t10p t10n t10c 1 (CellsO w10 (some ⟨b2, 0, none⟩)) 44 1 24 #[(Value.slice none 0 0)] fun p3 c3 w11 =>
        C1 t0 t1 p3 (t10n + 1) c3 t39 (IntKind.i64.wrap (t40 + 1)) w11)) (fun ch w9 => R (.panicked ch) w9)) (
    R (.returned (Value.tuple #[(Value.slice t10p t10n t10c), (Value.int .i64 0)])) w)
def slate_pages.l1 (t0 : Option Addr) (t1 : Int) (t10p : Option Addr) (t10n : Nat) (t10c : Nat) (t39 : Int) (t40 : Int) (w : World) (R : Ending → World → Prop) : Prop :=
  ∃ (I : Option Addr → Int → Option Addr → Nat → Nat → Int → Int → World → Prop) (m : Option Addr → Int → Option Addr → Nat → Nat → Int → Int → World → Nat), I t0 t1 t10p t10n t10c t39 t40 w ∧
  ∀ (t0 : Option Addr) (t1 : Int) (t10p : Option Addr) (t10n : Nat) (t10c : Nat) (t39 : Int) (t40 : Int) (w : World), I t0 t1 t10p t10n t10c t39 t40 w →
  slate_pages.b1 t0 t1 t10p t10n t10c t39 t40 w R (fun t0' t1' t10p' t10n' t10c' t39' t40' w' => I t0' t1' t10p' t10n' t10c' t39' t40' w' ∧ m t0' t1' t10p' t10n' t10c' t39' t40' w' < m t0 t1 t10p t10n t10c t39 t40 w)
def slate_pages.main (a0 : Option Addr) (a1 : Int) (w : World) (R : Ending → World → Prop) : Prop :=
  callP Try.prog 21 #[(Value.pointer a0), (Value.int .i64 a1)] w (fun v1 w1 =>
    dT v1 fun vs1 =>
    optP (vs1[0]?) fun v2 =>
    dS v2 fun p1 n1 c1 =>
    optP (vs1[1]?) fun v3 =>
    dI .i64 v3 fun x1 =>
    cond (x1 != 0) (
      R (.returned (Value.tuple #[(Value.slice none 0 0), (Value.int .i64 x1)])) w1) (
      callP Try.prog 33 #[(Value.slice p1 n1 c1)] w1 (fun v4 w3 =>
        dT v4 fun vs2 =>
        optP (vs2[0]?) fun v5 =>
        dI .i64 v5 fun x2 =>
        optP (vs2[1]?) fun v6 =>
        dI .i64 v6 fun x3 =>
        optP (vs2[2]?) fun v7 =>
        dI .i64 v7 fun x4 =>
        cond (x4 != 0) (
          R (.returned (Value.tuple #[(Value.slice none 0 0), (Value.int .i64 0)])) w3) (
          callP Try.prog 15 #[(Value.int .i64 x3)] w3 (fun v8 w5 =>
            dI .i64 v8 fun x5 =>
            cond (x5 != a1) (
              R (.returned (Value.tuple #[(Value.slice none 0 0), (Value.int .i64 0)])) w5) (
              newP w5 #[(Value.slice p1 n1 c1)] 44 fun b1 w7 =>
              slate_pages.l1 a0 a1 (some ⟨b1, 0, none⟩) 1 1 x2 0 w7 R)) (fun ch w6 => R (.panicked ch) w6))) (fun ch w4 => R (.panicked ch) w4))) (fun ch w2 => R (.panicked ch) w2)
abbrev slate_pages.C (a0 : Option Addr) (a1 : Int) (w : World) (R : Ending → World → Prop) : Prop := Calls Try.prog 14 #[(Value.pointer a0), (Value.int .i64 a1)] w R
noncomputable def slate_pages.code : Code := (Try.f14.body).getD .skip
noncomputable def slate_pages.sk (R : Ending → World → Prop) : Sk := (.seq .leaf (.seq .leaf (.seq .leaf (.seq .leaf (.seq .leaf (.seq .leaf (.seq (.seq .leaf (.block (.loop [(0, .ptr), (1, .int .i64), (10, .slice), (39, .int .i64), (40, .int .i64)] (fun (t0 : Option Addr) (t1 : Int) (t10p : Option Addr) (t10n : Nat) (t10c : Nat) (t39 : Int) (t40 : Int) (w : World) => slate_pages.l1 t0 t1 t10p t10n t10c t39 t40 w R) (fun (C1 : Option Addr → Int → Option Addr → Nat → Nat → Int → Int → World → Prop) => .leaf)))) .leaf)))))))
def slate_pages.owed (R : Ending → World → Prop) : Prop :=
  (∀ (t0 : Option Addr) (t1 : Int) (t10p : Option Addr) (t10n : Nat) (t10c : Nat) (t39 : Int) (t40 : Int) (w : World), slate_pages.l1 t0 t1 t10p t10n t10c t39 t40 w R → slate_pages.l1 t0 t1 t10p t10n t10c t39 t40 w R) ∧ (∀ (C1 : Option Addr → Int → Option Addr → Nat → Nat → Int → Int → World → Prop), True) ∧ True
theorem slate_pages.pays (R : Ending → World → Prop) : slate_pages.owed R := ⟨(fun _ _ _ _ _ _ _ _ h => h), (fun _ => trivial), trivial⟩
set_option maxRecDepth 100000 in
theorem slate_pages.ok {a0 : Option Addr} {a1 : Int} {w : World} {R : Ending → World → Prop} (h : slate_pages.main a0 a1 w R) : slate_pages.C a0 a1 w R :=
  ev_ok cxok (c := cx) Try.func14 (code := slate_pages.code) (by kernel_rfl) [.tmp 4, .tmp 5] (by kernel_rfl) 61 (by kernel_rfl) (slate_pages.sk R) (args := [(Value.pointer a0), (Value.int .i64 a1)]) (Nat.le_of_ble_eq_true rfl) (by kernel_rfl) (o := slate_pages.owed R) (by kernel_rfl) (slate_pages.pays R) h

/-! ### stopcock/slate.area: function 15 -/
def slate_area.main (a0 : Int) (w : World) (R : Ending → World → Prop) : Prop :=
  R (.returned (Value.int .i64 (IntKind.i64.wrap (0 + (IntKind.i64.wrap ((Int.tmod a0 2) * 12)))))) w
abbrev slate_area.C (a0 : Int) (w : World) (R : Ending → World → Prop) : Prop := Calls Try.prog 15 #[(Value.int .i64 a0)] w R
noncomputable def slate_area.code : Code := (Try.f15.body).getD .skip
noncomputable def slate_area.sk (R : Ending → World → Prop) : Sk := .leaf
def slate_area.owed (R : Ending → World → Prop) : Prop :=
  True
theorem slate_area.pays (R : Ending → World → Prop) : slate_area.owed R := trivial
set_option maxRecDepth 100000 in
theorem slate_area.ok {a0 : Int} {w : World} {R : Ending → World → Prop} (h : slate_area.main a0 w R) : slate_area.C a0 w R :=
  ev_ok cxok (c := cx) Try.func15 (code := slate_area.code) (by kernel_rfl) [.tmp 2] (by kernel_rfl) 7 (by kernel_rfl) (slate_area.sk R) (args := [(Value.int .i64 a0)]) (Nat.le_of_ble_eq_true rfl) (by kernel_rfl) (o := slate_area.owed R) (by kernel_rfl) (slate_area.pays R) h

/-! ### stopcock/leaf.Decode: function 16 -/
def leaf_Decode.k1 (t0p : Option Addr) (t0n : Nat) (t0c : Nat) (t2 : Nat) (t3 : Nat) (t6 : Nat) (t8p : Option Addr) (t8n : Nat) (t8c : Nat) (w : World) (R : Ending → World → Prop) : Prop :=
  ∃ (x5 : Int), w.cell? (⟨t6, 1, none⟩ : Addr) = some (Value.int .i64 x5) ∧
  (∃ (x6 : Int), w.cell? (⟨t6, 2, none⟩ : Addr) = some (Value.int .i64 x6) ∧
    (newP w #[(Value.int .i64 0), (Value.int .i64 0)] 34 fun b5 w22 =>
      Wr w22 (⟨b5, 0, none⟩ : Addr) [(Value.int .i64 x5), (Value.int .i64 x6)] ∧ ∀ w23, w23 = w22.setCells (⟨b5, 0, none⟩ : Addr).block (⟨b5, 0, none⟩ : Addr).off [(Value.int .i64 x5), (Value.int .i64 x6)] →
      (∃ (cs26 : Array Value), cs26.size = 2 ∧ CellsAt w23 (⟨b5, 0, none⟩ : Addr) cs26.toList ∧
        (callP Try.prog 36 #[(Value.slice t8p t8n t8c), (Value.agg cs26)] w23 (fun v7 w24 =>
            dT v7 fun vs3 =>
            optP (vs3[0]?) fun v8 =>
            dA v8 fun cs27 =>
            optP (vs3[1]?) fun v9 =>
            dB v9 fun b6 =>
            newP w24 #[(Value.int .i64 0), (Value.int .i64 0), (Value.int .i64 0), (Value.int .i64 0), (Value.int .i64 0), (Value.int .i64 0), (Value.int .i64 0), (Value.int .i64 0), (Value.int .i64 0), (Value.int .i64 0), (Value.int .i64 0), (Value.int .i64 0), (Value.int .i64 0), (Value.int .i64 0), (Value.int .i64 0), (Value.int .i64 0), (Value.slice none 0 0), (Value.slice none 0 0), (Value.slice none 0 0), (Value.slice none 0 0), (Value.slice none 0 0), (Value.slice none 0 0), (Value.slice none 0 0), (Value.slice none 0 0)] 32 fun b7 w26 =>
            chk (decide (cs27.size = 24)) (
              Wr w26 (⟨b7, 0, none⟩ : Addr) cs27.toList ∧ ∀ w27, w27 = w26.setCells (⟨b7, 0, none⟩ : Addr).block (⟨b7, 0, none⟩ : Addr).off cs27.toList →
              (cond (!b6) (
                  ∃ (cs28 : Array Value), cs28.size = 24 ∧ CellsAt w27.drew (⟨t2, 0, none⟩ : Addr) cs28.toList ∧
                  (∃ (cs29 : Array Value), cs29.size = 2 ∧ CellsAt w27.drew (⟨t3, 0, none⟩ : Addr) cs29.toList ∧
                    (chk (decide (cs28.size = 24)) (
                        Wr w27.drew (⟨t2, 0, none⟩ : Addr) cs28.toList ∧ ∀ w28, w28 = w27.drew.setCells (⟨t2, 0, none⟩ : Addr).block (⟨t2, 0, none⟩ : Addr).off cs28.toList →
                        (chk (decide (cs29.size = 2)) (
                          CellsAt w28 (⟨t3, 0, none⟩ : Addr) cs29.toList ∧
                          (chk (decide (cs29.size = 2)) (
                          Wr w28 (⟨t3, 0, none⟩ : Addr) cs29.toList ∧ ∀ w29, w29 = w28.setCells (⟨t3, 0, none⟩ : Addr).block (⟨t3, 0, none⟩ : Addr).off cs29.toList →
                          (∃ (cs30 : Array Value), cs30.size = 24 ∧ CellsAt w29 (⟨t2, 0, none⟩ : Addr) cs30.toList ∧
                          (∃ (cs31 : Array Value), cs31.size = 2 ∧ CellsAt w29 (⟨t3, 0, none⟩ : Addr) cs31.toList ∧
                          (R (.returned (Value.tuple #[(Value.agg cs30), (Value.agg cs31), (Value.int .i64 0), (Value.int .i64 11)])) w29))))))))))) (
                  ∃ (cs32 : Array Value), cs32.size = 24 ∧ CellsAt w27 (⟨b7, 0, none⟩ : Addr) cs32.toList ∧
                  (∃ (cs33 : Array Value), cs33.size = 2 ∧ CellsAt w27 (⟨b5, 0, none⟩ : Addr) cs33.toList ∧
                    (∃ (x7 : Int), w27.cell? (⟨t6, 0, none⟩ : Addr) = some (Value.int .i64 x7) ∧
                      (callP Try.prog 30 #[(Value.agg cs32), (Value.agg cs33), (Value.int .i64 x7)] w27 (fun v10 w30 =>
                          dT v10 fun vs4 =>
                          optP (vs4[0]?) fun v11 =>
                          dS v11 fun p5 n4 c5 =>
                          optP (vs4[1]?) fun v12 =>
                          dI .i64 v12 fun x8 =>
                          cond (x8 != 0) (
                          ∃ (cs34 : Array Value), cs34.size = 24 ∧ CellsAt w30.drew (⟨t2, 0, none⟩ : Addr) cs34.toList ∧
                          (∃ (cs35 : Array Value), cs35.size = 2 ∧ CellsAt w30.drew (⟨t3, 0, none⟩ : Addr) cs35.toList ∧
                          (chk (decide (cs34.size = 24)) (
                          Wr w30.drew (⟨t2, 0, none⟩ : Addr) cs34.toList ∧ ∀ w34, w34 = w30.drew.setCells (⟨t2, 0, none⟩ : Addr).block (⟨t2, 0, none⟩ : Addr).off cs34.toList →
                          (chk (decide (cs35.size = 2)) (
                          CellsAt w34 (⟨t3, 0, none⟩ : Addr) cs35.toList ∧
                          (chk (decide (cs35.size = 2)) (
                          Wr w34 (⟨t3, 0, none⟩ : Addr) cs35.toList ∧ ∀ w35, w35 = w34.setCells (⟨t3, 0, none⟩ : Addr).block (⟨t3, 0, none⟩ : Addr).off cs35.toList →
                          (∃ (cs36 : Array Value), cs36.size = 24 ∧ CellsAt w35 (⟨t2, 0, none⟩ : Addr) cs36.toList ∧
                          (∃ (cs37 : Array Value), cs37.size = 2 ∧ CellsAt w35 (⟨t3, 0, none⟩ : Addr) cs37.toList ∧
                          (R (.returned (Value.tuple #[(Value.agg cs36), (Value.agg cs37), (Value.int .i64 0), (Value.int .i64 11)])) w35))))))))))) (
                          callP Try.prog 37 #[(Value.slice p5 n4 c5), (Value.slice t0p t0n t0c), (Value.func (.func 38) #[] #[])] w30 (fun v13 w32 =>
                          dB v13 fun b8 =>
                          cond (!b8) (
                          ∃ (cs38 : Array Value), cs38.size = 24 ∧ CellsAt w32.drew (⟨t2, 0, none⟩ : Addr) cs38.toList ∧
                          (∃ (cs39 : Array Value), cs39.size = 2 ∧ CellsAt w32.drew (⟨t3, 0, none⟩ : Addr) cs39.toList ∧
                          (chk (decide (cs38.size = 24)) (
                          Wr w32.drew (⟨t2, 0, none⟩ : Addr) cs38.toList ∧ ∀ w36, w36 = w32.drew.setCells (⟨t2, 0, none⟩ : Addr).block (⟨t2, 0, none⟩ : Addr).off cs38.toList →
                          (chk (decide (cs39.size = 2)) (
                          CellsAt w36 (⟨t3, 0, none⟩ : Addr) cs39.toList ∧
                          (chk (decide (cs39.size = 2)) (
                          Wr w36 (⟨t3, 0, none⟩ : Addr) cs39.toList ∧ ∀ w37, w37 = w36.setCells (⟨t3, 0, none⟩ : Addr).block (⟨t3, 0, none⟩ : Addr).off cs39.toList →
                          (∃ (cs40 : Array Value), cs40.size = 24 ∧ CellsAt w37 (⟨t2, 0, none⟩ : Addr) cs40.toList ∧
                          (∃ (cs41 : Array Value), cs41.size = 2 ∧ CellsAt w37 (⟨t3, 0, none⟩ : Addr) cs41.toList ∧
                          (R (.returned (Value.tuple #[(Value.agg cs40), (Value.agg cs41), (Value.int .i64 0), (Value.int .i64 11)])) w37))))))))))) (
                          ∃ (cs42 : Array Value), cs42.size = 24 ∧ CellsAt w32.drew (⟨b7, 0, none⟩ : Addr) cs42.toList ∧
                          (∃ (cs43 : Array Value), cs43.size = 2 ∧ CellsAt w32.drew (⟨b5, 0, none⟩ : Addr) cs43.toList ∧
                          (∃ (x9 : Int), w32.drew.cell? (⟨t6, 0, none⟩ : Addr) = some (Value.int .i64 x9) ∧
                          (chk (decide (cs42.size = 24)) (
                          Wr w32.drew (⟨t2, 0, none⟩ : Addr) cs42.toList ∧ ∀ w38, w38 = w32.drew.setCells (⟨t2, 0, none⟩ : Addr).block (⟨t2, 0, none⟩ : Addr).off cs42.toList →
                          (w38.cell? (⟨t6, 0, none⟩ : Addr) = some (Value.int .i64 x9) ∧
                          (chk (decide (cs43.size = 2)) (
                          CellsAt w38 (⟨b5, 0, none⟩ : Addr) cs43.toList ∧
                          (chk (decide (cs43.size = 2)) (
                          Wr w38 (⟨t3, 0, none⟩ : Addr) cs43.toList ∧ ∀ w39, w39 = w38.setCells (⟨t3, 0, none⟩ : Addr).block (⟨t3, 0, none⟩ : Addr).off cs43.toList →
                          (w39.cell? (⟨t6, 0, none⟩ : Addr) = some (Value.int .i64 x9) ∧
                          (∃ (cs44 : Array Value), cs44.size = 24 ∧ CellsAt w39 (⟨t2, 0, none⟩ : Addr) cs44.toList ∧
                          (∃ (cs45 : Array Value), cs45.size = 2 ∧ CellsAt w39 (⟨t3, 0, none⟩ : Addr) cs45.toList ∧
                          (R (.returned (Value.tuple #[(Value.agg cs44), (Value.agg cs45), (Value.int .i64 x9), (Value.int .i64 0)])) w39))))))))))))))) (fun ch w33 => R (.panicked ch) w33))) (fun ch w31 => R (.panicked ch) w31)))))))) (fun ch w25 => R (.panicked ch) w25)))))
def leaf_Decode.b1 (t0p : Option Addr) (t0n : Nat) (t0c : Nat) (t2 : Nat) (t3 : Nat) (t6 : Nat) (t8p : Option Addr) (t8n : Nat) (t8c : Nat) (t46p : Option Addr) (t46n : Nat) (t46c : Nat) (t47 : Int) (t48 : Int) (w : World) (R : Ending → World → Prop) (C1 : Option Addr → Nat → Nat → Nat → Nat → Nat → Option Addr → Nat → Nat → Option Addr → Nat → Nat → Int → Int → World → Prop) : Prop :=
  cond (decide (t48 < t47)) (
    chk (decide (0 ≤ t48)) (
      chk (decide (t48 < ((t46n : Nat) : Int))) (
        optP t46p fun d2 =>
        ∃ (p2 : Option Addr) (n2 : Nat) (c2 : Nat), w.cell? (d2.add (t48.toNat * 1)) = some (Value.slice p2 n2 c2) ∧
        (callP Try.prog 35 #[(Value.slice p2 n2 c2)] w (fun v4 w15 =>
            dT v4 fun vs2 =>
            optP (vs2[0]?) fun v5 =>
            dS v5 fun p3 n3 c3 =>
            optP (vs2[1]?) fun v6 =>
            dI .i64 v6 fun x2 =>
            cond (x2 != 0) (
              ∃ (cs18 : Array Value), cs18.size = 24 ∧ CellsAt w15.drew (⟨t2, 0, none⟩ : Addr) cs18.toList ∧
              (∃ (cs19 : Array Value), cs19.size = 2 ∧ CellsAt w15.drew (⟨t3, 0, none⟩ : Addr) cs19.toList ∧
                (chk (decide (cs18.size = 24)) (
                    Wr w15.drew (⟨t2, 0, none⟩ : Addr) cs18.toList ∧ ∀ w17, w17 = w15.drew.setCells (⟨t2, 0, none⟩ : Addr).block (⟨t2, 0, none⟩ : Addr).off cs18.toList →
                    (chk (decide (cs19.size = 2)) (
                        CellsAt w17 (⟨t3, 0, none⟩ : Addr) cs19.toList ∧
                        (chk (decide (cs19.size = 2)) (
                          Wr w17 (⟨t3, 0, none⟩ : Addr) cs19.toList ∧ ∀ w18, w18 = w17.setCells (⟨t3, 0, none⟩ : Addr).block (⟨t3, 0, none⟩ : Addr).off cs19.toList →
                          (∃ (cs20 : Array Value), cs20.size = 24 ∧ CellsAt w18 (⟨t2, 0, none⟩ : Addr) cs20.toList ∧
                          (∃ (cs21 : Array Value), cs21.size = 2 ∧ CellsAt w18 (⟨t3, 0, none⟩ : Addr) cs21.toList ∧
                          (R (.returned (Value.tuple #[(Value.agg cs20), (Value.agg cs21), (Value.int .i64 0), (Value.int .i64 11)])) w18))))))))))) (
              chk (decide (5 < ((n3 : Nat) : Int))) (
                optP p3 fun d3 =>
                ∃ (x3 : Int), w15.cell? (d3.add 5) = some (Value.int .u8 x3) ∧
                (cond (decide (x3 > 52)) (
                    ∃ (cs22 : Array Value), cs22.size = 24 ∧ CellsAt w15.drew (⟨t2, 0, none⟩ : Addr) cs22.toList ∧
                    (∃ (cs23 : Array Value), cs23.size = 2 ∧ CellsAt w15.drew (⟨t3, 0, none⟩ : Addr) cs23.toList ∧
                      (chk (decide (cs22.size = 24)) (
                          Wr w15.drew (⟨t2, 0, none⟩ : Addr) cs22.toList ∧ ∀ w19, w19 = w15.drew.setCells (⟨t2, 0, none⟩ : Addr).block (⟨t2, 0, none⟩ : Addr).off cs22.toList →
                          (chk (decide (cs23.size = 2)) (
                          CellsAt w19 (⟨t3, 0, none⟩ : Addr) cs23.toList ∧
                          (chk (decide (cs23.size = 2)) (
                          Wr w19 (⟨t3, 0, none⟩ : Addr) cs23.toList ∧ ∀ w20, w20 = w19.setCells (⟨t3, 0, none⟩ : Addr).block (⟨t3, 0, none⟩ : Addr).off cs23.toList →
                          (∃ (cs24 : Array Value), cs24.size = 24 ∧ CellsAt w20 (⟨t2, 0, none⟩ : Addr) cs24.toList ∧
                          (∃ (cs25 : Array Value), cs25.size = 2 ∧ CellsAt w20 (⟨t3, 0, none⟩ : Addr) cs25.toList ∧
                          (R (.returned (Value.tuple #[(Value.agg cs24), (Value.agg cs25), (Value.int .i64 0), (Value.int .i64 11)])) w20))))))))))) (
                    chk (decide (5 < ((n3 : Nat) : Int))) (
                      optP p3 fun d4 =>
                      ∃ (x4 : Int), w15.cell? (d4.add 5) = some (Value.int .u8 x4) ∧
                      (chk (decide (0 ≤ (IntKind.u8.wrap (6 + x4)))) (
                          chk (decide ((IntKind.u8.wrap (6 + x4)) ≤ ((c3 : Nat) : Int))) (
                          chk (decide (6 ≤ (((IntKind.u8.wrap (6 + x4)).toNat : Nat) : Int))) (
                          appP w15 t8p t8n t8c ((IntKind.u8.wrap (6 + x4)).toNat - 6) (CellsO w15 (slA p3 c3 6 1)) 5 1 1 #[(Value.int .u8 0)] fun p4 c4 w21 =>
                          C1 t0p t0n t0c t2 t3 t6 p4 (t8n + ((IntKind.u8.wrap (6 + x4)).toNat - 6)) c4 t46p t46n t46c t47 (IntKind.i64.wrap (t48 + 1)) w21)))))))))) (fun ch w16 => R (.panicked ch) w16))))) (
    leaf_Decode.k1 t0p t0n t0c t2 t3 t6 t8p t8n t8c w R)
def leaf_Decode.l1 (t0p : Option Addr) (t0n : Nat) (t0c : Nat) (t2 : Nat) (t3 : Nat) (t6 : Nat) (t8p : Option Addr) (t8n : Nat) (t8c : Nat) (t46p : Option Addr) (t46n : Nat) (t46c : Nat) (t47 : Int) (t48 : Int) (w : World) (R : Ending → World → Prop) : Prop :=
  ∃ (I : Option Addr → Nat → Nat → Nat → Nat → Nat → Option Addr → Nat → Nat → Option Addr → Nat → Nat → Int → Int → World → Prop) (m : Option Addr → Nat → Nat → Nat → Nat → Nat → Option Addr → Nat → Nat → Option Addr → Nat → Nat → Int → Int → World → Nat), I t0p t0n t0c t2 t3 t6 t8p t8n t8c t46p t46n t46c t47 t48 w ∧
  ∀ (t0p : Option Addr) (t0n : Nat) (t0c : Nat) (t2 : Nat) (t3 : Nat) (t6 : Nat) (t8p : Option Addr) (t8n : Nat) (t8c : Nat) (t46p : Option Addr) (t46n : Nat) (t46c : Nat) (t47 : Int) (t48 : Int) (w : World), I t0p t0n t0c t2 t3 t6 t8p t8n t8c t46p t46n t46c t47 t48 w →
  leaf_Decode.b1 t0p t0n t0c t2 t3 t6 t8p t8n t8c t46p t46n t46c t47 t48 w R (fun t0p' t0n' t0c' t2' t3' t6' t8p' t8n' t8c' t46p' t46n' t46c' t47' t48' w' => I t0p' t0n' t0c' t2' t3' t6' t8p' t8n' t8c' t46p' t46n' t46c' t47' t48' w' ∧ m t0p' t0n' t0c' t2' t3' t6' t8p' t8n' t8c' t46p' t46n' t46c' t47' t48' w' < m t0p t0n t0c t2 t3 t6 t8p t8n t8c t46p t46n t46c t47 t48 w)
def leaf_Decode.main (a0p : Option Addr) (a0n : Nat) (a0c : Nat) (w : World) (R : Ending → World → Prop) : Prop :=
  newP w #[(Value.int .i64 0), (Value.int .i64 0), (Value.int .i64 0), (Value.int .i64 0), (Value.int .i64 0), (Value.int .i64 0), (Value.int .i64 0), (Value.int .i64 0), (Value.int .i64 0), (Value.int .i64 0), (Value.int .i64 0), (Value.int .i64 0), (Value.int .i64 0), (Value.int .i64 0), (Value.int .i64 0), (Value.int .i64 0), (Value.slice none 0 0), (Value.slice none 0 0), (Value.slice none 0 0), (Value.slice none 0 0), (Value.slice none 0 0), (Value.slice none 0 0), (Value.slice none 0 0), (Value.slice none 0 0)] 32 fun b1 w1 =>
  newP w1 #[(Value.int .i64 0), (Value.int .i64 0)] 34 fun b2 w2 =>
  cond (((a0n : Nat) : Int) == 0) (
    ∃ (cs1 : Array Value), cs1.size = 24 ∧ CellsAt w2.drew (⟨b1, 0, none⟩ : Addr) cs1.toList ∧
    (∃ (cs2 : Array Value), cs2.size = 2 ∧ CellsAt w2.drew (⟨b2, 0, none⟩ : Addr) cs2.toList ∧
      (chk (decide (cs1.size = 24)) (
          Wr w2.drew (⟨b1, 0, none⟩ : Addr) cs1.toList ∧ ∀ w3, w3 = w2.drew.setCells (⟨b1, 0, none⟩ : Addr).block (⟨b1, 0, none⟩ : Addr).off cs1.toList →
          (chk (decide (cs2.size = 2)) (
              CellsAt w3 (⟨b2, 0, none⟩ : Addr) cs2.toList ∧
              (chk (decide (cs2.size = 2)) (
                  Wr w3 (⟨b2, 0, none⟩ : Addr) cs2.toList ∧ ∀ w4, w4 = w3.setCells (⟨b2, 0, none⟩ : Addr).block (⟨b2, 0, none⟩ : Addr).off cs2.toList →
                  (∃ (cs3 : Array Value), cs3.size = 24 ∧ CellsAt w4 (⟨b1, 0, none⟩ : Addr) cs3.toList ∧
                    (∃ (cs4 : Array Value), cs4.size = 2 ∧ CellsAt w4 (⟨b2, 0, none⟩ : Addr) cs4.toList ∧
                      (R (.returned (Value.tuple #[(Value.agg cs3), (Value.agg cs4), (Value.int .i64 0), (Value.int .i64 11)])) w4))))))))))) (
    cond (decide (((a0n : Nat) : Int) > 12)) (
      ∃ (cs5 : Array Value), cs5.size = 24 ∧ CellsAt w2.drew (⟨b1, 0, none⟩ : Addr) cs5.toList ∧
      (∃ (cs6 : Array Value), cs6.size = 2 ∧ CellsAt w2.drew (⟨b2, 0, none⟩ : Addr) cs6.toList ∧
        (chk (decide (cs5.size = 24)) (
            Wr w2.drew (⟨b1, 0, none⟩ : Addr) cs5.toList ∧ ∀ w5, w5 = w2.drew.setCells (⟨b1, 0, none⟩ : Addr).block (⟨b1, 0, none⟩ : Addr).off cs5.toList →
            (chk (decide (cs6.size = 2)) (
                CellsAt w5 (⟨b2, 0, none⟩ : Addr) cs6.toList ∧
                (chk (decide (cs6.size = 2)) (
                    Wr w5 (⟨b2, 0, none⟩ : Addr) cs6.toList ∧ ∀ w6, w6 = w5.setCells (⟨b2, 0, none⟩ : Addr).block (⟨b2, 0, none⟩ : Addr).off cs6.toList →
                    (∃ (cs7 : Array Value), cs7.size = 24 ∧ CellsAt w6 (⟨b1, 0, none⟩ : Addr) cs7.toList ∧
                      (∃ (cs8 : Array Value), cs8.size = 2 ∧ CellsAt w6 (⟨b2, 0, none⟩ : Addr) cs8.toList ∧
                        (R (.returned (Value.tuple #[(Value.agg cs7), (Value.agg cs8), (Value.int .i64 0), (Value.int .i64 11)])) w6))))))))))) (
      chk (decide (0 < ((a0n : Nat) : Int))) (
        optP a0p fun d1 =>
        ∃ (p1 : Option Addr) (n1 : Nat) (c1 : Nat), w2.cell? d1 = some (Value.slice p1 n1 c1) ∧
        (callP Try.prog 34 #[(Value.slice p1 n1 c1)] w2 (fun v1 w7 =>
            dT v1 fun vs1 =>
            optP (vs1[0]?) fun v2 =>
            dA v2 fun cs9 =>
            optP (vs1[1]?) fun v3 =>
            dB v3 fun b3 =>
            newP w7 #[(Value.int .i64 0), (Value.int .i64 0), (Value.int .i64 0), (Value.int .i64 0), (Value.int .i64 0)] 78 fun b4 w9 =>
            chk (decide (cs9.size = 5)) (
              Wr w9 (⟨b4, 0, none⟩ : Addr) cs9.toList ∧ ∀ w10, w10 = w9.setCells (⟨b4, 0, none⟩ : Addr).block (⟨b4, 0, none⟩ : Addr).off cs9.toList →
              (cond (!b3) (
                  ∃ (cs10 : Array Value), cs10.size = 24 ∧ CellsAt w10.drew (⟨b1, 0, none⟩ : Addr) cs10.toList ∧
                  (∃ (cs11 : Array Value), cs11.size = 2 ∧ CellsAt w10.drew (⟨b2, 0, none⟩ : Addr) cs11.toList ∧
                    (chk (decide (cs10.size = 24)) (
                        Wr w10.drew (⟨b1, 0, none⟩ : Addr) cs10.toList ∧ ∀ w11, w11 = w10.drew.setCells (⟨b1, 0, none⟩ : Addr).block (⟨b1, 0, none⟩ : Addr).off cs10.toList →
                        (chk (decide (cs11.size = 2)) (
                          CellsAt w11 (⟨b2, 0, none⟩ : Addr) cs11.toList ∧
                          (chk (decide (cs11.size = 2)) (
                          Wr w11 (⟨b2, 0, none⟩ : Addr) cs11.toList ∧ ∀ w12, w12 = w11.setCells (⟨b2, 0, none⟩ : Addr).block (⟨b2, 0, none⟩ : Addr).off cs11.toList →
                          (∃ (cs12 : Array Value), cs12.size = 24 ∧ CellsAt w12 (⟨b1, 0, none⟩ : Addr) cs12.toList ∧
                          (∃ (cs13 : Array Value), cs13.size = 2 ∧ CellsAt w12 (⟨b2, 0, none⟩ : Addr) cs13.toList ∧
                          (R (.returned (Value.tuple #[(Value.agg cs12), (Value.agg cs13), (Value.int .i64 0), (Value.int .i64 11)])) w12))))))))))) (
                  ∃ (x1 : Int), w10.cell? (⟨b4, 3, none⟩ : Addr) = some (Value.int .i64 x1) ∧
                  (cond (x1 != (IntKind.i64.wrap (((a0n : Nat) : Int) - 1))) (
                      ∃ (cs14 : Array Value), cs14.size = 24 ∧ CellsAt w10.drew (⟨b1, 0, none⟩ : Addr) cs14.toList ∧
                      (∃ (cs15 : Array Value), cs15.size = 2 ∧ CellsAt w10.drew (⟨b2, 0, none⟩ : Addr) cs15.toList ∧
                        (chk (decide (cs14.size = 24)) (
                          Wr w10.drew (⟨b1, 0, none⟩ : Addr) cs14.toList ∧ ∀ w13, w13 = w10.drew.setCells (⟨b1, 0, none⟩ : Addr).block (⟨b1, 0, none⟩ : Addr).off cs14.toList →
                          (chk (decide (cs15.size = 2)) (
                          CellsAt w13 (⟨b2, 0, none⟩ : Addr) cs15.toList ∧
                          (chk (decide (cs15.size = 2)) (
                          Wr w13 (⟨b2, 0, none⟩ : Addr) cs15.toList ∧ ∀ w14, w14 = w13.setCells (⟨b2, 0, none⟩ : Addr).block (⟨b2, 0, none⟩ : Addr).off cs15.toList →
                          (∃ (cs16 : Array Value), cs16.size = 24 ∧ CellsAt w14 (⟨b1, 0, none⟩ : Addr) cs16.toList ∧
                          (∃ (cs17 : Array Value), cs17.size = 2 ∧ CellsAt w14 (⟨b2, 0, none⟩ : Addr) cs17.toList ∧
                          (R (.returned (Value.tuple #[(Value.agg cs16), (Value.agg cs17), (Value.int .i64 0), (Value.int .i64 11)])) w14))))))))))) (
                      chk (decide (1 ≤ ((a0n : Nat) : Int))) (
                        leaf_Decode.l1 a0p a0n a0c b1 b2 b4 none 0 0 (slA a0p a0c 1 1) (a0n - 1) (a0c - 1) (((a0n - 1) : Nat) : Int) 0 w10 R))))))) (fun ch w8 => R (.panicked ch) w8)))))
abbrev leaf_Decode.C (a0p : Option Addr) (a0n : Nat) (a0c : Nat) (w : World) (R : Ending → World → Prop) : Prop := Calls Try.prog 16 #[(Value.slice a0p a0n a0c)] w R
noncomputable def leaf_Decode.code : Code := (Try.f16.body).getD .skip
noncomputable def leaf_Decode.sk (R : Ending → World → Prop) : Sk := (.seq .leaf (.seq .leaf (.seq .leaf (.seq .leaf (.seq .leaf (.cut [(0, .slice), (2, .blk), (3, .blk), (6, .blk), (8, .slice)] (fun (t0p : Option Addr) (t0n : Nat) (t0c : Nat) (t2 : Nat) (t3 : Nat) (t6 : Nat) (t8p : Option Addr) (t8n : Nat) (t8c : Nat) (w : World) => leaf_Decode.k1 t0p t0n t0c t2 t3 t6 t8p t8n t8c w R) (.seq .leaf (.block (.loop [(0, .slice), (2, .blk), (3, .blk), (6, .blk), (8, .slice), (46, .slice), (47, .int .i64), (48, .int .i64)] (fun (t0p : Option Addr) (t0n : Nat) (t0c : Nat) (t2 : Nat) (t3 : Nat) (t6 : Nat) (t8p : Option Addr) (t8n : Nat) (t8c : Nat) (t46p : Option Addr) (t46n : Nat) (t46c : Nat) (t47 : Int) (t48 : Int) (w : World) => leaf_Decode.l1 t0p t0n t0c t2 t3 t6 t8p t8n t8c t46p t46n t46c t47 t48 w R) (fun (C1 : Option Addr → Nat → Nat → Nat → Nat → Nat → Option Addr → Nat → Nat → Option Addr → Nat → Nat → Int → Int → World → Prop) => .leaf)))) .leaf))))))
def leaf_Decode.owed (R : Ending → World → Prop) : Prop :=
  (∀ (t0p : Option Addr) (t0n : Nat) (t0c : Nat) (t2 : Nat) (t3 : Nat) (t6 : Nat) (t8p : Option Addr) (t8n : Nat) (t8c : Nat) (t46p : Option Addr) (t46n : Nat) (t46c : Nat) (t47 : Int) (t48 : Int) (w : World), leaf_Decode.l1 t0p t0n t0c t2 t3 t6 t8p t8n t8c t46p t46n t46c t47 t48 w R → leaf_Decode.l1 t0p t0n t0c t2 t3 t6 t8p t8n t8c t46p t46n t46c t47 t48 w R) ∧ (∀ (C1 : Option Addr → Nat → Nat → Nat → Nat → Nat → Option Addr → Nat → Nat → Option Addr → Nat → Nat → Int → Int → World → Prop), True) ∧ (∀ (t0p : Option Addr) (t0n : Nat) (t0c : Nat) (t2 : Nat) (t3 : Nat) (t6 : Nat) (t8p : Option Addr) (t8n : Nat) (t8c : Nat) (w : World), leaf_Decode.k1 t0p t0n t0c t2 t3 t6 t8p t8n t8c w R → leaf_Decode.k1 t0p t0n t0c t2 t3 t6 t8p t8n t8c w R) ∧ True
theorem leaf_Decode.pays (R : Ending → World → Prop) : leaf_Decode.owed R := ⟨(fun _ _ _ _ _ _ _ _ _ _ _ _ _ _ _ h => h), (fun _ => trivial), (fun _ _ _ _ _ _ _ _ _ _ h => h), trivial⟩
set_option maxRecDepth 100000 in
theorem leaf_Decode.ok {a0p : Option Addr} {a0n : Nat} {a0c : Nat} {w : World} {R : Ending → World → Prop} (h : leaf_Decode.main a0p a0n a0c w R) : leaf_Decode.C a0p a0n a0c w R :=
  ev_ok cxok (c := cx) Try.func16 (code := leaf_Decode.code) (by kernel_rfl) [.cell 2 32, .cell 3 34, .tmp 4, .tmp 5] (by kernel_rfl) 113 (by kernel_rfl) (leaf_Decode.sk R) (args := [(Value.slice a0p a0n a0c)]) (Nat.le_of_ble_eq_true rfl) (by kernel_rfl) (o := leaf_Decode.owed R) (by kernel_rfl) (leaf_Decode.pays R) h

/-! ### stopcock/stopcockref03.Open: function 17 -/
def stopcockref03_Open.main (a0p : Option Addr) (a0n : Nat) (a0c : Nat) (w : World) (R : Ending → World → Prop) : Prop :=
  cond (((a0n : Nat) : Int) != 64) (
    R (.returned (Value.tuple #[(Value.slice none 0 0), (Value.int .i64 6)])) w) (
    chk (decide (60 ≤ ((a0c : Nat) : Int))) (
      callP Try.prog 39 #[(Value.slice (slA a0p a0c 0 1) 60 a0c)] w (fun v1 w1 =>
        dT v1 fun vs1 =>
        optP (vs1[0]?) fun v2 =>
        dS v2 fun p1 n1 c1 =>
        optP (vs1[1]?) fun v3 =>
        dI .i64 v3 fun x1 =>
        ∃ (ns1 : List Int), ns1.length = n1 ∧ CellsO w1 p1 (ns1.map (Value.int .u8)) ∧
        (∃ (ns2 : List Int), ns2.length = a0n ∧ CellsO w1 a0p (ns2.map (Value.int .u8)) ∧
          (cond (!((strOf ns1).toList == (strOf ns2).toList)) (
              R (.returned (Value.tuple #[(Value.slice none 0 0), (Value.int .i64 2)])) w1) (
              newP w1 #[] 5 fun b1 w3 =>
              chk (decide (60 ≤ ((a0c : Nat) : Int))) (
                appP w3 (some ⟨b1, 0, none⟩) 0 0 60 (CellsO w3 (slA a0p a0c 0 1)) 5 1 1 #[(Value.int .u8 0)] fun p2 c2 w4 =>
                R (.returned (Value.tuple #[(Value.slice p2 (0 + 60) c2), (Value.int .i64 0)])) w4))))) (fun ch w2 => R (.panicked ch) w2)))
abbrev stopcockref03_Open.C (a0p : Option Addr) (a0n : Nat) (a0c : Nat) (w : World) (R : Ending → World → Prop) : Prop := Calls Try.prog 17 #[(Value.slice a0p a0n a0c)] w R
noncomputable def stopcockref03_Open.code : Code := (Try.f17.body).getD .skip
noncomputable def stopcockref03_Open.sk (R : Ending → World → Prop) : Sk := .leaf
def stopcockref03_Open.owed (R : Ending → World → Prop) : Prop :=
  True
theorem stopcockref03_Open.pays (R : Ending → World → Prop) : stopcockref03_Open.owed R := trivial
set_option maxRecDepth 100000 in
theorem stopcockref03_Open.ok {a0p : Option Addr} {a0n : Nat} {a0c : Nat} {w : World} {R : Ending → World → Prop} (h : stopcockref03_Open.main a0p a0n a0c w R) : stopcockref03_Open.C a0p a0n a0c w R :=
  ev_ok cxok (c := cx) Try.func17 (code := stopcockref03_Open.code) (by kernel_rfl) [.tmp 2, .tmp 3] (by kernel_rfl) 24 (by kernel_rfl) (stopcockref03_Open.sk R) (args := [(Value.slice a0p a0n a0c)]) (Nat.le_of_ble_eq_true rfl) (by kernel_rfl) (o := stopcockref03_Open.owed R) (by kernel_rfl) (stopcockref03_Open.pays R) h

/-! ### stopcock/stopcockref13.number: function 18 -/
def stopcockref13_number.main (a0p : Option Addr) (a0n : Nat) (a0c : Nat) (a1 : Int) (a2 : Int) (w : World) (R : Ending → World → Prop) : Prop :=
  callP Try.prog 40 #[(Value.slice a0p a0n a0c), (Value.int .i64 a1), (Value.int .i64 a2)] w (fun v1 w1 =>
    dT v1 fun vs1 =>
    optP (vs1[0]?) fun v2 =>
    dI .i64 v2 fun x1 =>
    optP (vs1[1]?) fun v3 =>
    dI .i64 v3 fun x2 =>
    R (.returned (Value.int .i64 x1)) w1) (fun ch w2 => R (.panicked ch) w2)
abbrev stopcockref13_number.C (a0p : Option Addr) (a0n : Nat) (a0c : Nat) (a1 : Int) (a2 : Int) (w : World) (R : Ending → World → Prop) : Prop := Calls Try.prog 18 #[(Value.slice a0p a0n a0c), (Value.int .i64 a1), (Value.int .i64 a2)] w R
noncomputable def stopcockref13_number.code : Code := (Try.f18.body).getD .skip
noncomputable def stopcockref13_number.sk (R : Ending → World → Prop) : Sk := .leaf
def stopcockref13_number.owed (R : Ending → World → Prop) : Prop :=
  True
theorem stopcockref13_number.pays (R : Ending → World → Prop) : stopcockref13_number.owed R := trivial
set_option maxRecDepth 100000 in
theorem stopcockref13_number.ok {a0p : Option Addr} {a0n : Nat} {a0c : Nat} {a1 : Int} {a2 : Int} {w : World} {R : Ending → World → Prop} (h : stopcockref13_number.main a0p a0n a0c a1 a2 w R) : stopcockref13_number.C a0p a0n a0c a1 a2 w R :=
  ev_ok cxok (c := cx) Try.func18 (code := stopcockref13_number.code) (by kernel_rfl) [.tmp 6] (by kernel_rfl) 17 (by kernel_rfl) (stopcockref13_number.sk R) (args := [(Value.slice a0p a0n a0c), (Value.int .i64 a1), (Value.int .i64 a2)]) (Nat.le_of_ble_eq_true rfl) (by kernel_rfl) (o := stopcockref13_number.owed R) (by kernel_rfl) (stopcockref13_number.pays R) h

/-! ### stopcock/stopcockref01.Place: function 19 -/
def stopcockref01_Place.main (a0 : Int) (a1 : Int) (w : World) (R : Ending → World → Prop) : Prop :=
  cond (decide (a1 < 1)) (
    R (.returned (Value.tuple #[(Value.complex .f64 0 0), (Value.int .i64 1)])) w) (
    cond (decide (a1 > 16)) (
      R (.returned (Value.tuple #[(Value.complex .f64 0 0), (Value.int .i64 1)])) w) (
      cond (decide (a0 < 0)) (
        R (.returned (Value.tuple #[(Value.complex .f64 0 0), (Value.int .i64 5)])) w) (
        cond (decide (a0 ≥ (IntKind.i64.wrap (24 * a1)))) (
          R (.returned (Value.tuple #[(Value.complex .f64 0 0), (Value.int .i64 5)])) w) (
          chk (decide (a1 ≠ 0)) (
            chk (decide (a1 ≠ 0)) (
              callP Try.prog 41 #[(Value.int .i64 (IntKind.i64.wrap (Int.tdiv a0 a1))), (Value.int .i64 (Int.tmod a0 a1))] w.drew (fun v1 w1 =>
                dC v1 fun r1 m1 =>
                R (.returned (Value.tuple #[(Value.complex .f64 r1 m1), (Value.int .i64 0)])) w1) (fun ch w2 => R (.panicked ch) w2)))))))
abbrev stopcockref01_Place.C (a0 : Int) (a1 : Int) (w : World) (R : Ending → World → Prop) : Prop := Calls Try.prog 19 #[(Value.int .i64 a0), (Value.int .i64 a1)] w R
noncomputable def stopcockref01_Place.code : Code := (Try.f19.body).getD .skip
noncomputable def stopcockref01_Place.sk (R : Ending → World → Prop) : Sk := .leaf
def stopcockref01_Place.owed (R : Ending → World → Prop) : Prop :=
  True
theorem stopcockref01_Place.pays (R : Ending → World → Prop) : stopcockref01_Place.owed R := trivial
set_option maxRecDepth 100000 in
theorem stopcockref01_Place.ok {a0 : Int} {a1 : Int} {w : World} {R : Ending → World → Prop} (h : stopcockref01_Place.main a0 a1 w R) : stopcockref01_Place.C a0 a1 w R :=
  ev_ok cxok (c := cx) Try.func19 (code := stopcockref01_Place.code) (by kernel_rfl) [.tmp 4, .tmp 5] (by kernel_rfl) 27 (by kernel_rfl) (stopcockref01_Place.sk R) (args := [(Value.int .i64 a0), (Value.int .i64 a1)]) (Nat.le_of_ble_eq_true rfl) (by kernel_rfl) (o := stopcockref01_Place.owed R) (by kernel_rfl) (stopcockref01_Place.pays R) h

/-! ### stopcock/stopcockref13.Encode: function 20 -/
def stopcockref13_Encode.b2 (t2 : Int) (t3 : Nat) (t4 : Nat) (t9p : Option Addr) (t9n : Nat) (t9c : Nat) (t10 : Int) (t11 : Int) (w : World) (R : Ending → World → Prop) (C1 : Int → Nat → Nat → Option Addr → Nat → Nat → Int → World → Prop) (C2 : Int → Nat → Nat → Option Addr → Nat → Nat → Int → Int → World → Prop) : Prop :=
  chk (decide (0 ≤ t10)) (
    chk (decide (t10 < (8 : Int))) (
      ∃ (p3 : Option Addr) (n3 : Nat) (c3 : Nat), w.cell? ((⟨t3, 16, none⟩ : Addr).add (t10.toNat * 1)) = some (Value.slice p3 n3 c3) ∧
      (cond (decide (t11 < ((n3 : Nat) : Int))) (
          chk (decide (0 ≤ t10)) (
            chk (decide (t10 < (8 : Int))) (
              ∃ (p4 : Option Addr) (n4 : Nat) (c4 : Nat), w.cell? ((⟨t3, 16, none⟩ : Addr).add (t10.toNat * 1)) = some (Value.slice p4 n4 c4) ∧
              (chk (decide (0 ≤ t11)) (
                  chk (decide (t11 < ((n4 : Nat) : Int))) (
                    optP p4 fun d1 =>
                    ∃ (r1 : Nat) (m1 : Nat), w.cell? (d1.add (t11.toNat * 1)) = some (Value.complex .f64 r1 m1) ∧
                    (cond (!(fCmp .eql r1 13830554455654793216 && fCmp .eql m1 0)) (
                        chk (decide (0 ≤ t10)) (
                          chk (decide (t10 < (8 : Int))) (
                          ∃ (p5 : Option Addr) (n5 : Nat) (c5 : Nat), w.drew.cell? ((⟨t3, 16, none⟩ : Addr).add (t10.toNat * 1)) = some (Value.slice p5 n5 c5) ∧
                          (chk (decide (0 ≤ t11)) (
                          chk (decide (t11 < ((n5 : Nat) : Int))) (
                          optP p5 fun d2 =>
                          ∃ (r2 : Nat) (m2 : Nat), w.drew.cell? (d2.add (t11.toNat * 1)) = some (Value.complex .f64 r2 m2) ∧
                          (∃ (x4 : Int), w.drew.cell? (⟨t4, 1, none⟩ : Addr) = some (Value.int .i64 x4) ∧
                          (callP Try.prog 44 #[(Value.complex .f64 r2 m2), (Value.int .i64 x4)] w.drew (fun v4 w10 =>
                          dT v4 fun vs1 =>
                          optP (vs1[0]?) fun v5 =>
                          dI .i64 v5 fun x5 =>
                          optP (vs1[1]?) fun v6 =>
                          dI .i64 v6 fun x6 =>
                          callP Try.prog 43 #[(Value.slice t9p t9n t9c), (Value.int .i64 2), (Value.int .i64 (IntKind.i64.wrap (x5 + 1)))] w10 (fun v7 w12 =>
                          dS v7 fun p6 n6 c6 =>
                          C2 t2 t3 t4 p6 n6 c6 t10 (IntKind.i64.wrap (t11 + 1)) w12) (fun ch w13 => R (.panicked ch) w13)) (fun ch w11 => R (.panicked ch) w11))))))))) (
                        callP Try.prog 43 #[(Value.slice t9p t9n t9c), (Value.int .i64 2), (Value.int .i64 0)] w (fun v8 w14 =>
                          dS v8 fun p7 n7 c7 =>
                          C2 t2 t3 t4 p7 n7 c7 t10 (IntKind.i64.wrap (t11 + 1)) w14) (fun ch w15 => R (.panicked ch) w15))))))))) (
          C1 t2 t3 t4 t9p t9n t9c (IntKind.i64.wrap (t10 + 1)) w))))
def stopcockref13_Encode.l2 (t2 : Int) (t3 : Nat) (t4 : Nat) (t9p : Option Addr) (t9n : Nat) (t9c : Nat) (t10 : Int) (t11 : Int) (w : World) (R : Ending → World → Prop) (C1 : Int → Nat → Nat → Option Addr → Nat → Nat → Int → World → Prop) : Prop :=
  ∃ (I : Int → Nat → Nat → Option Addr → Nat → Nat → Int → Int → World → Prop) (m : Int → Nat → Nat → Option Addr → Nat → Nat → Int → Int → World → Nat), I t2 t3 t4 t9p t9n t9c t10 t11 w ∧
  ∀ (t2 : Int) (t3 : Nat) (t4 : Nat) (t9p : Option Addr) (t9n : Nat) (t9c : Nat) (t10 : Int) (t11 : Int) (w : World), I t2 t3 t4 t9p t9n t9c t10 t11 w →
  stopcockref13_Encode.b2 t2 t3 t4 t9p t9n t9c t10 t11 w R C1 (fun t2' t3' t4' t9p' t9n' t9c' t10' t11' w' => I t2' t3' t4' t9p' t9n' t9c' t10' t11' w' ∧ m t2' t3' t4' t9p' t9n' t9c' t10' t11' w' < m t2 t3 t4 t9p t9n t9c t10 t11 w)
def stopcockref13_Encode.k2 (t2 : Int) (t9p : Option Addr) (t9n : Nat) (t9c : Nat) (t13 : Int) (t17p : Option Addr) (t17n : Nat) (t17c : Nat) (t18 : Int) (t19p : Option Addr) (t19n : Nat) (t19c : Nat) (w : World) (R : Ending → World → Prop) (C3 : Int → Option Addr → Nat → Nat → Int → Option Addr → Nat → Nat → Int → World → Prop) : Prop :=
  callP Try.prog 43 #[(Value.slice none 0 0), (Value.int .i64 4), (Value.int .i64 t2)] w (fun v19 w35 =>
    dS v19 fun p16 n15 c16 =>
    callP Try.prog 43 #[(Value.slice p16 n15 c16), (Value.int .i64 1), (Value.int .i64 t18)] w35 (fun v20 w37 =>
      dS v20 fun p17 n16 c17 =>
      callP Try.prog 43 #[(Value.slice p17 n16 c17), (Value.int .i64 1), (Value.int .i64 ((t19n : Nat) : Int))] w37 (fun v21 w39 =>
        dS v21 fun p18 n17 c18 =>
        appP w39 p18 n17 c18 t19n (CellsO w39 t19p) 5 1 1 #[(Value.int .u8 0)] fun p19 c19 w41 =>
        callP Try.prog 39 #[(Value.slice p19 (n17 + t19n) c19)] w41 (fun v22 w42 =>
          dT v22 fun vs3 =>
          optP (vs3[0]?) fun v23 =>
          dS v23 fun p20 n18 c20 =>
          optP (vs3[1]?) fun v24 =>
          dI .i64 v24 fun x11 =>
          newP w42 #[(Value.slice p20 n18 c20)] 44 fun b6 w44 =>
          appP w44 t17p t17n t17c 1 (CellsO w44 (some ⟨b6, 0, none⟩)) 44 1 24 #[(Value.slice none 0 0)] fun p21 c21 w45 =>
          C3 t2 t9p t9n t9c t13 p21 (t17n + 1) c21 (IntKind.i64.wrap (t18 + 1)) w45) (fun ch w43 => R (.panicked ch) w43)) (fun ch w40 => R (.panicked ch) w40)) (fun ch w38 => R (.panicked ch) w38)) (fun ch w36 => R (.panicked ch) w36)
def stopcockref13_Encode.b3 (t2 : Int) (t9p : Option Addr) (t9n : Nat) (t9c : Nat) (t13 : Int) (t17p : Option Addr) (t17n : Nat) (t17c : Nat) (t18 : Int) (w : World) (R : Ending → World → Prop) (C3 : Int → Option Addr → Nat → Nat → Int → Option Addr → Nat → Nat → Int → World → Prop) : Prop :=
  cond (decide (t18 < t13)) (
    chk (decide (0 ≤ (IntKind.i64.wrap (52 * t18)))) (
      chk (decide ((IntKind.i64.wrap (52 * t18)) ≤ ((t9n : Nat) : Int))) (
        cond (decide ((((t9n - (IntKind.i64.wrap (52 * t18)).toNat) : Nat) : Int) > 52)) (
          chk (decide (52 ≤ (((t9c - (IntKind.i64.wrap (52 * t18)).toNat) : Nat) : Int))) (
            stopcockref13_Encode.k2 t2 t9p t9n t9c t13 t17p t17n t17c t18 (slA (slA t9p t9c ((IntKind.i64.wrap (52 * t18)).toNat) 1) (t9c - (IntKind.i64.wrap (52 * t18)).toNat) 0 1) 52 (t9c - (IntKind.i64.wrap (52 * t18)).toNat) w R C3)) (
          stopcockref13_Encode.k2 t2 t9p t9n t9c t13 t17p t17n t17c t18 (slA t9p t9c ((IntKind.i64.wrap (52 * t18)).toNat) 1) (t9n - (IntKind.i64.wrap (52 * t18)).toNat) (t9c - (IntKind.i64.wrap (52 * t18)).toNat) w R C3)))) (
    R (.returned (Value.tuple #[(Value.slice t17p t17n t17c), (Value.int .i64 0)])) w)
def stopcockref13_Encode.l3 (t2 : Int) (t9p : Option Addr) (t9n : Nat) (t9c : Nat) (t13 : Int) (t17p : Option Addr) (t17n : Nat) (t17c : Nat) (t18 : Int) (w : World) (R : Ending → World → Prop) : Prop :=
  ∃ (I : Int → Option Addr → Nat → Nat → Int → Option Addr → Nat → Nat → Int → World → Prop) (m : Int → Option Addr → Nat → Nat → Int → Option Addr → Nat → Nat → Int → World → Nat), I t2 t9p t9n t9c t13 t17p t17n t17c t18 w ∧
  ∀ (t2 : Int) (t9p : Option Addr) (t9n : Nat) (t9c : Nat) (t13 : Int) (t17p : Option Addr) (t17n : Nat) (t17c : Nat) (t18 : Int) (w : World), I t2 t9p t9n t9c t13 t17p t17n t17c t18 w →
  stopcockref13_Encode.b3 t2 t9p t9n t9c t13 t17p t17n t17c t18 w R (fun t2' t9p' t9n' t9c' t13' t17p' t17n' t17c' t18' w' => I t2' t9p' t9n' t9c' t13' t17p' t17n' t17c' t18' w' ∧ m t2' t9p' t9n' t9c' t13' t17p' t17n' t17c' t18' w' < m t2 t9p t9n t9c t13 t17p t17n t17c t18 w)
def stopcockref13_Encode.k1 (t2 : Int) (t4 : Nat) (t9p : Option Addr) (t9n : Nat) (t9c : Nat) (w : World) (R : Ending → World → Prop) : Prop :=
  ∃ (x7 : Int), w.drew.cell? (⟨t4, 0, none⟩ : Addr) = some (Value.int .i64 x7) ∧
  (∃ (x8 : Int), w.drew.cell? (⟨t4, 1, none⟩ : Addr) = some (Value.int .i64 x8) ∧
    (newP w.drew #[] 5 fun b4 w16 =>
      w16.cell? (⟨t4, 1, none⟩ : Addr) = some (Value.int .i64 x8) ∧
      (w16.cell? (⟨t4, 0, none⟩ : Addr) = some (Value.int .i64 x7) ∧
        (appP w16 (some ⟨b4, 0, none⟩) 0 0 (⟨#[83, 76, 65, 84]⟩ : ByteArray).size (fun xs => xs = byteVals (⟨#[83, 76, 65, 84]⟩ : ByteArray)) 5 1 1 #[(Value.int .u8 0)] fun p8 c8 w17 =>
          w17.cell? (⟨t4, 1, none⟩ : Addr) = some (Value.int .i64 x8) ∧
          (w17.cell? (⟨t4, 0, none⟩ : Addr) = some (Value.int .i64 x7) ∧
            (callP Try.prog 43 #[(Value.slice p8 (0 + (⟨#[83, 76, 65, 84]⟩ : ByteArray).size) c8), (Value.int .i64 4), (Value.int .i64 t2)] w17 (fun v9 w18 =>
                dS v9 fun p9 n8 c9 =>
                w18.cell? (⟨t4, 1, none⟩ : Addr) = some (Value.int .i64 x8) ∧
                (w18.cell? (⟨t4, 0, none⟩ : Addr) = some (Value.int .i64 x7) ∧
                  (callP Try.prog 43 #[(Value.slice p9 n8 c9), (Value.int .i64 1), (Value.int .i64 x7)] w18 (fun v10 w20 =>
                      dS v10 fun p10 n9 c10 =>
                      w20.cell? (⟨t4, 1, none⟩ : Addr) = some (Value.int .i64 x8) ∧
                      (callP Try.prog 43 #[(Value.slice p10 n9 c10), (Value.int .i64 1), (Value.int .i64 x8)] w20 (fun v11 w22 =>
                          dS v11 fun p11 n10 c11 =>
                          callP Try.prog 43 #[(Value.slice p11 n10 c11), (Value.int .i64 1), (Value.int .i64 (IntKind.i64.wrap (Int.tdiv (IntKind.i64.wrap (((t9n : Nat) : Int) + 51)) 52)))] w22 (fun v12 w24 =>
                          dS v12 fun p12 n11 c12 =>
                          callP Try.prog 43 #[(Value.slice p12 n11 c12), (Value.int .i64 2), (Value.int .i64 ((t9n : Nat) : Int))] w24 (fun v13 w26 =>
                          dS v13 fun p13 n12 c13 =>
                          callP Try.prog 45 #[(Value.slice t9p t9n t9c)] w26 (fun v14 w28 =>
                          dI .u32 v14 fun x9 =>
                          callP Try.prog 43 #[(Value.slice p13 n12 c13), (Value.int .i64 4), (Value.int .i64 (IntKind.i64.wrap x9))] w28 (fun v15 w30 =>
                          dS v15 fun p14 n13 c14 =>
                          callP Try.prog 39 #[(Value.slice p14 n13 c14)] w30 (fun v16 w32 =>
                          dT v16 fun vs2 =>
                          optP (vs2[0]?) fun v17 =>
                          dS v17 fun p15 n14 c15 =>
                          optP (vs2[1]?) fun v18 =>
                          dI .i64 v18 fun x10 =>
                          newP w32 #[(Value.slice p15 n14 c15)] 44 fun b5 w34 =>
                          stopcockref13_Encode.l3 t2 t9p t9n t9c (IntKind.i64.wrap (Int.tdiv (IntKind.i64.wrap (((t9n : Nat) : Int) + 51)) 52)) (some ⟨b5, 0, none⟩) 1 1 0 w34 R) (fun ch w33 => R (.panicked ch) w33)) (fun ch w31 => R (.panicked ch) w31)) (fun ch w29 => R (.panicked ch) w29)) (fun ch w27 => R (.panicked ch) w27)) (fun ch w25 => R (.panicked ch) w25)) (fun ch w23 => R (.panicked ch) w23))) (fun ch w21 => R (.panicked ch) w21)))) (fun ch w19 => R (.panicked ch) w19)))))))
def stopcockref13_Encode.b1 (t2 : Int) (t3 : Nat) (t4 : Nat) (t9p : Option Addr) (t9n : Nat) (t9c : Nat) (t10 : Int) (w : World) (R : Ending → World → Prop) (C1 : Int → Nat → Nat → Option Addr → Nat → Nat → Int → World → Prop) : Prop :=
  cond (decide (t10 < 8)) (
    chk (decide (0 ≤ t10)) (
      chk (decide (t10 < (8 : Int))) (
        ∃ (x2 : Int), w.drew.cell? ((⟨t3, 0, none⟩ : Addr).add (t10.toNat * 2)) = some (Value.int .i64 x2) ∧
        (chk (decide (0 ≤ t10)) (
            chk (decide (t10 < (8 : Int))) (
              ∃ (x3 : Int), w.drew.cell? (((⟨t3, 0, none⟩ : Addr).add (t10.toNat * 2)).add 1) = some (Value.int .i64 x3) ∧
              (callP Try.prog 43 #[(Value.slice t9p t9n t9c), (Value.int .i64 1), (Value.int .i64 x2)] w.drew (fun v2 w6 =>
                  dS v2 fun p1 n1 c1 =>
                  w6.cell? (((⟨t3, 0, none⟩ : Addr).add (t10.toNat * 2)).add 1) = some (Value.int .i64 x3) ∧
                  (callP Try.prog 43 #[(Value.slice p1 n1 c1), (Value.int .i64 1), (Value.int .i64 x3)] w6 (fun v3 w8 =>
                      dS v3 fun p2 n2 c2 =>
                      stopcockref13_Encode.l2 t2 t3 t4 p2 n2 c2 t10 0 w8 R C1) (fun ch w9 => R (.panicked ch) w9))) (fun ch w7 => R (.panicked ch) w7)))))))) (
    stopcockref13_Encode.k1 t2 t4 t9p t9n t9c w R)
def stopcockref13_Encode.l1 (t2 : Int) (t3 : Nat) (t4 : Nat) (t9p : Option Addr) (t9n : Nat) (t9c : Nat) (t10 : Int) (w : World) (R : Ending → World → Prop) : Prop :=
  ∃ (I : Int → Nat → Nat → Option Addr → Nat → Nat → Int → World → Prop) (m : Int → Nat → Nat → Option Addr → Nat → Nat → Int → World → Nat), I t2 t3 t4 t9p t9n t9c t10 w ∧
  ∀ (t2 : Int) (t3 : Nat) (t4 : Nat) (t9p : Option Addr) (t9n : Nat) (t9c : Nat) (t10 : Int) (w : World), I t2 t3 t4 t9p t9n t9c t10 w →
  stopcockref13_Encode.b1 t2 t3 t4 t9p t9n t9c t10 w R (fun t2' t3' t4' t9p' t9n' t9c' t10' w' => I t2' t3' t4' t9p' t9n' t9c' t10' w' ∧ m t2' t3' t4' t9p' t9n' t9c' t10' w' < m t2 t3 t4 t9p t9n t9c t10 w)
def stopcockref13_Encode.main (a0 : Array Value) (a1_0 : Int) (a1_1 : Int) (a2 : Int) (w : World) (R : Ending → World → Prop) : Prop :=
  newP w a0 32 fun b1 w1 =>
  newP w1 #[(Value.int .i64 a1_0), (Value.int .i64 a1_1)] 34 fun b2 w2 =>
  cond (decide (a2 < 1)) (
    R (.returned (Value.tuple #[(Value.slice none 0 0), (Value.int .i64 1)])) w2) (
    cond (decide (a2 > 1073741824)) (
      R (.returned (Value.tuple #[(Value.slice none 0 0), (Value.int .i64 1)])) w2) (
      ∃ (cs1 : Array Value), cs1.size = 24 ∧ CellsAt w2 (⟨b1, 0, none⟩ : Addr) cs1.toList ∧
      (∃ (cs2 : Array Value), cs2.size = 2 ∧ CellsAt w2 (⟨b2, 0, none⟩ : Addr) cs2.toList ∧
        (callP Try.prog 42 #[(Value.agg cs1), (Value.agg cs2)] w2 (fun v1 w3 =>
            dI .i64 v1 fun x1 =>
            cond (x1 != 0) (
              R (.returned (Value.tuple #[(Value.slice none 0 0), (Value.int .i64 x1)])) w3) (
              newP w3 #[] 5 fun b3 w5 =>
              stopcockref13_Encode.l1 a2 b1 b2 (some ⟨b3, 0, none⟩) 0 0 0 w5 R)) (fun ch w4 => R (.panicked ch) w4)))))
abbrev stopcockref13_Encode.C (a0 : Array Value) (a1_0 : Int) (a1_1 : Int) (a2 : Int) (w : World) (R : Ending → World → Prop) : Prop := Calls Try.prog 20 #[(Value.agg a0), (Value.agg #[(Value.int .i64 a1_0), (Value.int .i64 a1_1)]), (Value.int .i64 a2)] w R
noncomputable def stopcockref13_Encode.code : Code := (Try.f20.body).getD .skip
noncomputable def stopcockref13_Encode.sk (R : Ending → World → Prop) : Sk := (.seq .leaf (.seq .leaf (.seq .leaf (.seq .leaf (.seq .leaf (.cut [(2, .int .i64), (4, .blk), (9, .slice)] (fun (t2 : Int) (t4 : Nat) (t9p : Option Addr) (t9n : Nat) (t9c : Nat) (w : World) => stopcockref13_Encode.k1 t2 t4 t9p t9n t9c w R) (.seq .leaf (.block (.loop [(2, .int .i64), (3, .blk), (4, .blk), (9, .slice), (10, .int .i64)] (fun (t2 : Int) (t3 : Nat) (t4 : Nat) (t9p : Option Addr) (t9n : Nat) (t9c : Nat) (t10 : Int) (w : World) => stopcockref13_Encode.l1 t2 t3 t4 t9p t9n t9c t10 w R) (fun (C1 : Int → Nat → Nat → Option Addr → Nat → Nat → Int → World → Prop) => (.seq .leaf (.seq (.block (.seq .leaf (.seq .leaf (.block (.loop [(2, .int .i64), (3, .blk), (4, .blk), (9, .slice), (10, .int .i64), (11, .int .i64)] (fun (t2 : Int) (t3 : Nat) (t4 : Nat) (t9p : Option Addr) (t9n : Nat) (t9c : Nat) (t10 : Int) (t11 : Int) (w : World) => stopcockref13_Encode.l2 t2 t3 t4 t9p t9n t9c t10 t11 w R C1) (fun (C2 : Int → Nat → Nat → Option Addr → Nat → Nat → Int → Int → World → Prop) => .leaf)))))) .leaf)))))) (.seq .leaf (.seq .leaf (.seq .leaf (.seq .leaf (.seq .leaf (.seq (.seq .leaf (.block (.loop [(2, .int .i64), (9, .slice), (13, .int .i64), (17, .slice), (18, .int .i64)] (fun (t2 : Int) (t9p : Option Addr) (t9n : Nat) (t9c : Nat) (t13 : Int) (t17p : Option Addr) (t17n : Nat) (t17c : Nat) (t18 : Int) (w : World) => stopcockref13_Encode.l3 t2 t9p t9n t9c t13 t17p t17n t17c t18 w R) (fun (C3 : Int → Option Addr → Nat → Nat → Int → Option Addr → Nat → Nat → Int → World → Prop) => (.seq .leaf (.seq (.block (.seq .leaf (.cut [(2, .int .i64), (9, .slice), (13, .int .i64), (17, .slice), (18, .int .i64), (19, .slice)] (fun (t2 : Int) (t9p : Option Addr) (t9n : Nat) (t9c : Nat) (t13 : Int) (t17p : Option Addr) (t17n : Nat) (t17c : Nat) (t18 : Int) (t19p : Option Addr) (t19n : Nat) (t19c : Nat) (w : World) => stopcockref13_Encode.k2 t2 t9p t9n t9c t13 t17p t17n t17c t18 t19p t19n t19c w R C3) .leaf .leaf))) .leaf)))))) .leaf))))))))))))
def stopcockref13_Encode.owed (R : Ending → World → Prop) : Prop :=
  (∀ (t2 : Int) (t3 : Nat) (t4 : Nat) (t9p : Option Addr) (t9n : Nat) (t9c : Nat) (t10 : Int) (w : World), stopcockref13_Encode.l1 t2 t3 t4 t9p t9n t9c t10 w R → stopcockref13_Encode.l1 t2 t3 t4 t9p t9n t9c t10 w R) ∧ (∀ (C1 : Int → Nat → Nat → Option Addr → Nat → Nat → Int → World → Prop), (∀ (t2 : Int) (t3 : Nat) (t4 : Nat) (t9p : Option Addr) (t9n : Nat) (t9c : Nat) (t10 : Int) (t11 : Int) (w : World), stopcockref13_Encode.l2 t2 t3 t4 t9p t9n t9c t10 t11 w R C1 → stopcockref13_Encode.l2 t2 t3 t4 t9p t9n t9c t10 t11 w R C1) ∧ (∀ (C2 : Int → Nat → Nat → Option Addr → Nat → Nat → Int → Int → World → Prop), True) ∧ True) ∧ (∀ (t2 : Int) (t4 : Nat) (t9p : Option Addr) (t9n : Nat) (t9c : Nat) (w : World), stopcockref13_Encode.k1 t2 t4 t9p t9n t9c w R → stopcockref13_Encode.k1 t2 t4 t9p t9n t9c w R) ∧ (∀ (t2 : Int) (t9p : Option Addr) (t9n : Nat) (t9c : Nat) (t13 : Int) (t17p : Option Addr) (t17n : Nat) (t17c : Nat) (t18 : Int) (w : World), stopcockref13_Encode.l3 t2 t9p t9n t9c t13 t17p t17n t17c t18 w R → stopcockref13_Encode.l3 t2 t9p t9n t9c t13 t17p t17n t17c t18 w R) ∧ (∀ (C3 : Int → Option Addr → Nat → Nat → Int → Option Addr → Nat → Nat → Int → World → Prop), (∀ (t2 : Int) (t9p : Option Addr) (t9n : Nat) (t9c : Nat) (t13 : Int) (t17p : Option Addr) (t17n : Nat) (t17c : Nat) (t18 : Int) (t19p : Option Addr) (t19n : Nat) (t19c : Nat) (w : World), stopcockref13_Encode.k2 t2 t9p t9n t9c t13 t17p t17n t17c t18 t19p t19n t19c w R C3 → stopcockref13_Encode.k2 t2 t9p t9n t9c t13 t17p t17n t17c t18 t19p t19n t19c w R C3) ∧ True) ∧ True
theorem stopcockref13_Encode.pays (R : Ending → World → Prop) : stopcockref13_Encode.owed R := ⟨(fun _ _ _ _ _ _ _ _ h => h), (fun _ => ⟨(fun _ _ _ _ _ _ _ _ _ h => h), (fun _ => trivial), trivial⟩), (fun _ _ _ _ _ _ h => h), (fun _ _ _ _ _ _ _ _ _ _ h => h), (fun _ => ⟨(fun _ _ _ _ _ _ _ _ _ _ _ _ _ h => h), trivial⟩), trivial⟩
set_option maxRecDepth 100000 in
theorem stopcockref13_Encode.ok {a0 : Array Value} {a1_0 : Int} {a1_1 : Int} {a2 : Int} {w : World} {R : Ending → World → Prop} (h : stopcockref13_Encode.main a0 a1_0 a1_1 a2 w R) : stopcockref13_Encode.C a0 a1_0 a1_1 a2 w R :=
  ev_ok cxok (c := cx) Try.func20 (code := stopcockref13_Encode.code) (by kernel_rfl) [.tmp 6, .tmp 7] (by kernel_rfl) 150 (by kernel_rfl) (stopcockref13_Encode.sk R) (args := [(Value.agg a0), (Value.agg #[(Value.int .i64 a1_0), (Value.int .i64 a1_1)]), (Value.int .i64 a2)]) (Nat.le_of_ble_eq_true rfl) (by kernel_rfl) (o := stopcockref13_Encode.owed R) (by kernel_rfl) (stopcockref13_Encode.pays R) h

/-! ### (*stopcock/basin.Basin).Get: function 21 -/
def basin_Basin_Get.main (a0 : Option Addr) (a1 : Int) (w : World) (R : Ending → World → Prop) : Prop :=
  callP Try.prog 25 #[(Value.pointer a0)] w (fun v1 w1 =>
    dI .i64 v1 fun x1 =>
    cond (x1 != 0) (
      R (.returned (Value.tuple #[(Value.slice none 0 0), (Value.int .i64 x1)])) w1) (
      cond (decide (a1 < 0)) (
        R (.returned (Value.tuple #[(Value.slice none 0 0), (Value.int .i64 5)])) w1) (
        optP a0 fun d1 =>
        ∃ (p1 : Option Addr) (n1 : Nat) (c1 : Nat), w1.cell? (d1.add 1) = some (Value.slice p1 n1 c1) ∧
        (cond (decide (a1 ≥ ((n1 : Nat) : Int))) (
            R (.returned (Value.tuple #[(Value.slice none 0 0), (Value.int .i64 5)])) w1) (
            optP a0 fun d2 =>
            ∃ (p2 : Option Addr) (n2 : Nat) (c2 : Nat), w1.cell? (d2.add 1) = some (Value.slice p2 n2 c2) ∧
            (chk (decide (0 ≤ a1)) (
                chk (decide (a1 < ((n2 : Nat) : Int))) (
                  optP p2 fun d3 =>
                  callP Try.prog 46 #[(Value.slice (slA (some (d3.add (a1.toNat * 64))) 64 0 1) 64 64)] w1 (fun v2 w3 =>
                    dS v2 fun p3 n3 c3 =>
                    R (.returned (Value.tuple #[(Value.slice p3 n3 c3), (Value.int .i64 0)])) w3) (fun ch w4 => R (.panicked ch) w4))))))))) (fun ch w2 => R (.panicked ch) w2)
abbrev basin_Basin_Get.C (a0 : Option Addr) (a1 : Int) (w : World) (R : Ending → World → Prop) : Prop := Calls Try.prog 21 #[(Value.pointer a0), (Value.int .i64 a1)] w R
noncomputable def basin_Basin_Get.code : Code := (Try.f21.body).getD .skip
noncomputable def basin_Basin_Get.sk (R : Ending → World → Prop) : Sk := .leaf
def basin_Basin_Get.owed (R : Ending → World → Prop) : Prop :=
  True
theorem basin_Basin_Get.pays (R : Ending → World → Prop) : basin_Basin_Get.owed R := trivial
set_option maxRecDepth 100000 in
theorem basin_Basin_Get.ok {a0 : Option Addr} {a1 : Int} {w : World} {R : Ending → World → Prop} (h : basin_Basin_Get.main a0 a1 w R) : basin_Basin_Get.C a0 a1 w R :=
  ev_ok cxok (c := cx) Try.func21 (code := basin_Basin_Get.code) (by kernel_rfl) [.tmp 4, .tmp 5] (by kernel_rfl) 31 (by kernel_rfl) (basin_Basin_Get.sk R) (args := [(Value.pointer a0), (Value.int .i64 a1)]) (Nat.le_of_ble_eq_true rfl) (by kernel_rfl) (o := basin_Basin_Get.owed R) (by kernel_rfl) (basin_Basin_Get.pays R) h

/-! ### stopcock/stopcockref13.Count: function 22 -/
def stopcockref13_Count.main (a0p : Option Addr) (a0n : Nat) (a0c : Nat) (w : World) (R : Ending → World → Prop) : Prop :=
  callP Try.prog 17 #[(Value.slice a0p a0n a0c)] w (fun v1 w1 =>
    dT v1 fun vs1 =>
    optP (vs1[0]?) fun v2 =>
    dS v2 fun p1 n1 c1 =>
    optP (vs1[1]?) fun v3 =>
    dI .i64 v3 fun x1 =>
    cond (x1 != 0) (
      R (.returned (Value.tuple #[(Value.int .i64 0), (Value.int .i64 0), (Value.int .i64 11)])) w1) (
      chk (decide (4 ≤ ((c1 : Nat) : Int))) (
        ∃ (ns1 : List Int), ns1.length = 4 ∧ CellsO w1 (slA p1 c1 0 1) (ns1.map (Value.int .u8)) ∧
        (cond (!((strOf ns1).toList == (⟨#[83, 76, 65, 84]⟩ : ByteArray).toList)) (
            R (.returned (Value.tuple #[(Value.int .i64 0), (Value.int .i64 0), (Value.int .i64 11)])) w1) (
            callP Try.prog 18 #[(Value.slice p1 n1 c1), (Value.int .i64 4), (Value.int .i64 4)] w1 (fun v4 w3 =>
              dI .i64 v4 fun x2 =>
              cond (decide (x2 < 1)) (
                R (.returned (Value.tuple #[(Value.int .i64 0), (Value.int .i64 0), (Value.int .i64 11)])) w3) (
                callP Try.prog 18 #[(Value.slice p1 n1 c1), (Value.int .i64 4), (Value.int .i64 4)] w3 (fun v5 w5 =>
                  dI .i64 v5 fun x3 =>
                  cond (decide (x3 > 1073741824)) (
                    R (.returned (Value.tuple #[(Value.int .i64 0), (Value.int .i64 0), (Value.int .i64 11)])) w5) (
                    callP Try.prog 18 #[(Value.slice p1 n1 c1), (Value.int .i64 10), (Value.int .i64 1)] w5 (fun v6 w7 =>
                      dI .i64 v6 fun x4 =>
                      cond (decide (x4 > 11)) (
                        R (.returned (Value.tuple #[(Value.int .i64 0), (Value.int .i64 0), (Value.int .i64 11)])) w7) (
                        callP Try.prog 18 #[(Value.slice p1 n1 c1), (Value.int .i64 10), (Value.int .i64 1)] w7 (fun v7 w9 =>
                          dI .i64 v7 fun x5 =>
                          callP Try.prog 18 #[(Value.slice p1 n1 c1), (Value.int .i64 4), (Value.int .i64 4)] w9 (fun v8 w11 =>
                          dI .i64 v8 fun x6 =>
                          R (.returned (Value.tuple #[(Value.int .i64 x5), (Value.int .i64 x6), (Value.int .i64 0)])) w11) (fun ch w12 => R (.panicked ch) w12)) (fun ch w10 => R (.panicked ch) w10))) (fun ch w8 => R (.panicked ch) w8))) (fun ch w6 => R (.panicked ch) w6))) (fun ch w4 => R (.panicked ch) w4)))))) (fun ch w2 => R (.panicked ch) w2)
abbrev stopcockref13_Count.C (a0p : Option Addr) (a0n : Nat) (a0c : Nat) (w : World) (R : Ending → World → Prop) : Prop := Calls Try.prog 22 #[(Value.slice a0p a0n a0c)] w R
noncomputable def stopcockref13_Count.code : Code := (Try.f22.body).getD .skip
noncomputable def stopcockref13_Count.sk (R : Ending → World → Prop) : Sk := .leaf
def stopcockref13_Count.owed (R : Ending → World → Prop) : Prop :=
  True
theorem stopcockref13_Count.pays (R : Ending → World → Prop) : stopcockref13_Count.owed R := trivial
set_option maxRecDepth 100000 in
theorem stopcockref13_Count.ok {a0p : Option Addr} {a0n : Nat} {a0c : Nat} {w : World} {R : Ending → World → Prop} (h : stopcockref13_Count.main a0p a0n a0c w R) : stopcockref13_Count.C a0p a0n a0c w R :=
  ev_ok cxok (c := cx) Try.func22 (code := stopcockref13_Count.code) (by kernel_rfl) [.tmp 2, .tmp 3, .tmp 4] (by kernel_rfl) 39 (by kernel_rfl) (stopcockref13_Count.sk R) (args := [(Value.slice a0p a0n a0c)]) (Nat.le_of_ble_eq_true rfl) (by kernel_rfl) (o := stopcockref13_Count.owed R) (by kernel_rfl) (stopcockref13_Count.pays R) h

end Go.Proofs.Ythgmebhkbbehmaa.G

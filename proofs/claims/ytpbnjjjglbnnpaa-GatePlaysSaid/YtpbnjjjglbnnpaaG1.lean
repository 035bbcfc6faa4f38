/- Statements of functions, and that their calls do what they say. Printed by wip/tool/dec.py. Conditions: none. -/
import Derived.Test.YtpbnjjjglbnnpaaG0
namespace Go.Proofs.Ytpbnjjjglbnnpaa.G
open Go.Dec
set_option linter.unusedVariables false

/-! ### stopcock/stopcocklaw19.GatePlays: function 3 -/
def stopcocklaw19_GatePlays.k4 (t0p : Option Addr) (t0n : Nat) (t0c : Nat) (t3 : Option Addr) (t4p : Option Addr) (t4n : Nat) (t4c : Nat) (t5 : Int) (t6 : Int) (t7 : Nat) (t8 : Int) (t9 : Int) (t27 : Int) (t28 : Bool) (t86 : Addr) (t87 : Array Value) (t88 : Int) (t89 : Bool) (t90 : Bool) (t93 : Bool) (w : World) (R : Ending → World → Prop) (C1 : Option Addr → Nat → Nat → Option Addr → Option Addr → Nat → Nat → Int → Int → World → Prop) : Prop :=
  cond (t9 != 0) (
    callP Try.prog 14 #[(Value.pointer t3)] w (fun v13 w21 =>
      dI .i64 v13 fun x10 =>
      cond (x10 != ((t4n : Nat) : Int)) (
        R (.returned (Value.bool false)) w21) (
        C1 t0p t0n t0c t3 t4p t4n t4c t5 (IntKind.i64.wrap (t6 + 1)) w21)) (fun ch w22 => R (.panicked ch) w22)) (
    cond (t8 != (IntKind.i64.wrap (t5 + 1))) (
      R (.returned (Value.bool false)) w) (
      ∃ (cs4 : Array Value), cs4.size = 5 ∧ CellsAt w (⟨t7, 1, none⟩ : Addr) cs4.toList ∧
      (optP (Instr.fill (fun i => some (i * 5, 5)) (madeCells #[(Value.int .i64 0), (Value.int .i64 0), (Value.int .i64 0), (Value.int .i64 0), (Value.slice none 0 0)] (1 * 5)) [(0, (Value.agg cs4))]) fun cs5 =>
        newP w cs5 29 fun b3 w11 =>
        appP w11 t4p t4n t4c 1 (CellsO w11 (some ⟨b3, 0, none⟩)) 29 5 56 #[(Value.int .i64 0), (Value.int .i64 0), (Value.int .i64 0), (Value.int .i64 0), (Value.slice none 0 0)] fun p2 c1 w12 =>
        callP Try.prog 14 #[(Value.pointer t3)] w12 (fun v14 w23 =>
          dI .i64 v14 fun x11 =>
          cond (x11 != (((t4n + 1) : Nat) : Int)) (
            R (.returned (Value.bool false)) w23) (
            C1 t0p t0n t0c t3 p2 (t4n + 1) c1 (IntKind.i64.wrap (t5 + 1)) (IntKind.i64.wrap (t6 + 1)) w23)) (fun ch w24 => R (.panicked ch) w24))))
def stopcocklaw19_GatePlays.k3 (t0p : Option Addr) (t0n : Nat) (t0c : Nat) (t3 : Option Addr) (t4p : Option Addr) (t4n : Nat) (t4c : Nat) (t5 : Int) (t6 : Int) (t7 : Nat) (t8 : Int) (t9 : Int) (t10 : Int) (t27 : Int) (t28 : Bool) (w : World) (R : Ending → World → Prop) (C1 : Option Addr → Nat → Nat → Option Addr → Option Addr → Nat → Nat → Int → Int → World → Prop) : Prop :=
  cond (t9 != t10) (
    R (.returned (Value.bool false)) w) (
    ∃ (cs3 : Array Value), cs3.size = 5 ∧ CellsAt w (⟨t7, 1, none⟩ : Addr) cs3.toList ∧
    (callP Try.prog 10 #[(Value.agg cs3)] w (fun v6 w9 =>
        dI .i64 v6 fun x6 =>
        cond (x6 == 0) (
          cond (t10 == 1) (
            R (.returned (Value.bool false)) w9) (
            stopcocklaw19_GatePlays.k4 t0p t0n t0c t3 t4p t4n t4c t5 t6 t7 t8 t9 t27 t28 (⟨t7, 1, none⟩ : Addr) cs3 x6 (x6 == 0) true (t10 == 1) w9 R C1)) (
          stopcocklaw19_GatePlays.k4 t0p t0n t0c t3 t4p t4n t4c t5 t6 t7 t8 t9 t27 t28 (⟨t7, 1, none⟩ : Addr) cs3 x6 (x6 == 0) false false w9 R C1)) (fun ch w10 => R (.panicked ch) w10)))
def stopcocklaw19_GatePlays.k2 (t0p : Option Addr) (t0n : Nat) (t0c : Nat) (t3 : Option Addr) (t4p : Option Addr) (t4n : Nat) (t4c : Nat) (t5 : Int) (t6 : Int) (t7 : Nat) (t8 : Int) (t9 : Int) (t10 : Int) (t27 : Int) (t28 : Bool) (t78 : Bool) (w : World) (R : Ending → World → Prop) (C1 : Option Addr → Nat → Nat → Option Addr → Option Addr → Nat → Nat → Int → Int → World → Prop) : Prop :=
  cond t78 (
    stopcocklaw19_GatePlays.k3 t0p t0n t0c t3 t4p t4n t4c t5 t6 t7 t8 t9 1 t27 t28 w R C1) (
    cond (decide (((t4n : Nat) : Int) ≥ 16)) (
      stopcocklaw19_GatePlays.k3 t0p t0n t0c t3 t4p t4n t4c t5 t6 t7 t8 t9 12 t27 t28 w R C1) (
      stopcocklaw19_GatePlays.k3 t0p t0n t0c t3 t4p t4n t4c t5 t6 t7 t8 t9 t10 t27 t28 w R C1))
def stopcocklaw19_GatePlays.k1 (t0p : Option Addr) (t0n : Nat) (t0c : Nat) (t3 : Option Addr) (t4p : Option Addr) (t4n : Nat) (t4c : Nat) (t5 : Int) (t6 : Int) (t7 : Nat) (t27 : Int) (t28 : Bool) (t37 : Int) (t58 : Bool) (w : World) (R : Ending → World → Prop) (C1 : Option Addr → Nat → Nat → Option Addr → Option Addr → Nat → Nat → Int → Int → World → Prop) : Prop :=
  cond t58 (
    ∃ (cs2 : Array Value), cs2.size = 5 ∧ CellsAt w (⟨t7, 1, none⟩ : Addr) cs2.toList ∧
    (callP Try.prog 9 #[(Value.pointer t3), (Value.agg cs2)] w (fun v3 w7 =>
        dT v3 fun vs1 =>
        optP (vs1[0]?) fun v4 =>
        dI .i64 v4 fun x2 =>
        optP (vs1[1]?) fun v5 =>
        dI .i64 v5 fun x3 =>
        ∃ (x4 : Int), w7.cell? (⟨t7, 1, none⟩ : Addr) = some (Value.int .i64 x4) ∧
        (cond (decide (x4 < 1)) (
            stopcocklaw19_GatePlays.k2 t0p t0n t0c t3 t4p t4n t4c t5 t6 t7 x2 x3 0 t27 t28 true w7 R C1) (
            ∃ (x5 : Int), w7.cell? (⟨t7, 1, none⟩ : Addr) = some (Value.int .i64 x5) ∧
            (stopcocklaw19_GatePlays.k2 t0p t0n t0c t3 t4p t4n t4c t5 t6 t7 x2 x3 0 t27 t28 (decide (x5 > 9)) w7 R C1)))) (fun ch w8 => R (.panicked ch) w8))) (
    cond (t37 == 3) (
      callP Try.prog 11 #[(Value.pointer t3)] w (fun v7 w13 =>
        dT v7 fun vs2 =>
        optP (vs2[0]?) fun v8 =>
        dI .i64 v8 fun x7 =>
        optP (vs2[1]?) fun v9 =>
        dA v9 fun cs6 =>
        optP (vs2[2]?) fun v10 =>
        dI .i64 v10 fun x8 =>
        newP w13 #[(Value.int .i64 0), (Value.int .i64 0), (Value.int .i64 0), (Value.int .i64 0), (Value.slice none 0 0)] 29 fun b4 w15 =>
        chk (decide (cs6.size = 5)) (
          Wr w15 (⟨b4, 0, none⟩ : Addr) cs6.toList ∧ ∀ w16, w16 = w15.setCells (⟨b4, 0, none⟩ : Addr).block (⟨b4, 0, none⟩ : Addr).off cs6.toList →
          (cond (((t4n : Nat) : Int) == 0) (
              cond (x8 != 4) (
                R (.returned (Value.bool false)) w16) (
                cond (x7 != 0) (
                  R (.returned (Value.bool false)) w16) (
                  callP Try.prog 14 #[(Value.pointer t3)] w16 (fun v15 w25 =>
                    dI .i64 v15 fun x12 =>
                    cond (x12 != ((t4n : Nat) : Int)) (
                      R (.returned (Value.bool false)) w25) (
                      C1 t0p t0n t0c t3 t4p t4n t4c t5 (IntKind.i64.wrap (t6 + 1)) w25)) (fun ch w26 => R (.panicked ch) w26)))) (
              cond (x8 != 0) (
                R (.returned (Value.bool false)) w16.drew) (
                cond (x7 != (IntKind.i64.wrap ((IntKind.i64.wrap (t5 - ((t4n : Nat) : Int))) + 1))) (
                  R (.returned (Value.bool false)) w16.drew) (
                  ∃ (cs7 : Array Value), cs7.size = 5 ∧ CellsAt w16.drew (⟨b4, 0, none⟩ : Addr) cs7.toList ∧
                  (chk (decide (0 < ((t4n : Nat) : Int))) (
                      optP t4p fun a2 =>
                      ∃ (cs8 : Array Value), cs8.size = 5 ∧ CellsAt w16.drew a2 cs8.toList ∧
                      (callP Try.prog 12 #[(Value.agg cs7), (Value.agg cs8)] w16.drew (fun v11 w17 =>
                          dB v11 fun b5 =>
                          cond (!b5) (
                          R (.returned (Value.bool false)) w17) (
                          callP Try.prog 14 #[(Value.pointer t3)] w17 (fun v16 w27 =>
                          dI .i64 v16 fun x13 =>
                          cond (x13 != ((t4n : Nat) : Int)) (
                          R (.returned (Value.bool false)) w27) (
                          C1 t0p t0n t0c t3 t4p t4n t4c t5 (IntKind.i64.wrap (t6 + 1)) w27)) (fun ch w28 => R (.panicked ch) w28))) (fun ch w18 => R (.panicked ch) w18)))))))))) (fun ch w14 => R (.panicked ch) w14)) (
      callP Try.prog 13 #[(Value.pointer t3)] w (fun v12 w19 =>
        dI .i64 v12 fun x9 =>
        cond (!((x9 == 4) == (((t4n : Nat) : Int) == 0))) (
          R (.returned (Value.bool false)) w19) (
          cond (x9 != 0) (
            cond (x9 != 4) (
              R (.returned (Value.bool false)) w19) (
              cond (x9 == 0) (
                chk (decide (1 ≤ ((t4n : Nat) : Int))) (
                  callP Try.prog 14 #[(Value.pointer t3)] w19 (fun v17 w29 =>
                    dI .i64 v17 fun x14 =>
                    cond (x14 != (((t4n - 1) : Nat) : Int)) (
                      R (.returned (Value.bool false)) w29) (
                      C1 t0p t0n t0c t3 (slA t4p t4c 1 5) (t4n - 1) (t4c - 1) t5 (IntKind.i64.wrap (t6 + 1)) w29)) (fun ch w30 => R (.panicked ch) w30))) (
                callP Try.prog 14 #[(Value.pointer t3)] w19 (fun v18 w31 =>
                  dI .i64 v18 fun x15 =>
                  cond (x15 != ((t4n : Nat) : Int)) (
                    R (.returned (Value.bool false)) w31) (
                    C1 t0p t0n t0c t3 t4p t4n t4c t5 (IntKind.i64.wrap (t6 + 1)) w31)) (fun ch w32 => R (.panicked ch) w32)))) (
            cond (x9 == 0) (
              chk (decide (1 ≤ ((t4n : Nat) : Int))) (
                callP Try.prog 14 #[(Value.pointer t3)] w19 (fun v19 w33 =>
                  dI .i64 v19 fun x16 =>
                  cond (x16 != (((t4n - 1) : Nat) : Int)) (
                    R (.returned (Value.bool false)) w33) (
                    C1 t0p t0n t0c t3 (slA t4p t4c 1 5) (t4n - 1) (t4c - 1) t5 (IntKind.i64.wrap (t6 + 1)) w33)) (fun ch w34 => R (.panicked ch) w34))) (
              callP Try.prog 14 #[(Value.pointer t3)] w19 (fun v20 w35 =>
                dI .i64 v20 fun x17 =>
                cond (x17 != ((t4n : Nat) : Int)) (
                  R (.returned (Value.bool false)) w35) (
                  C1 t0p t0n t0c t3 t4p t4n t4c t5 (IntKind.i64.wrap (t6 + 1)) w35)) (fun ch w36 => R (.panicked ch) w36))))) (fun ch w20 => R (.panicked ch) w20)))
def stopcocklaw19_GatePlays.b1 (t0p : Option Addr) (t0n : Nat) (t0c : Nat) (t3 : Option Addr) (t4p : Option Addr) (t4n : Nat) (t4c : Nat) (t5 : Int) (t6 : Int) (w : World) (R : Ending → World → Prop) (C1 : Option Addr → Nat → Nat → Option Addr → Option Addr → Nat → Nat → Int → Int → World → Prop) : Prop :=
  cond (decide (t6 < ((t0n : Nat) : Int))) (
    cond (decide (t6 < 100)) (
      chk (decide (0 ≤ t6)) (
        chk (decide (t6 < ((t0n : Nat) : Int))) (
          optP t0p fun a1 =>
          ∃ (cs1 : Array Value), cs1.size = 6 ∧ CellsAt w (a1.add (t6.toNat * 6)) cs1.toList ∧
          (newP w #[(Value.int .i64 0), (Value.int .i64 0), (Value.int .i64 0), (Value.int .i64 0), (Value.int .i64 0), (Value.slice none 0 0)] 31 fun b2 w5 =>
            chk (decide (cs1.size = 6)) (
              Wr w5 (⟨b2, 0, none⟩ : Addr) cs1.toList ∧ ∀ w6, w6 = w5.setCells (⟨b2, 0, none⟩ : Addr).block (⟨b2, 0, none⟩ : Addr).off cs1.toList →
              (∃ (x1 : Int), w6.cell? (⟨b2, 0, none⟩ : Addr) = some (Value.int .i64 x1) ∧
                (cond (x1 == 0) (
                    stopcocklaw19_GatePlays.k1 t0p t0n t0c t3 t4p t4n t4c t5 t6 b2 t6 (decide (t6 < 100)) x1 (x1 == 0) w6 R C1) (
                    cond (x1 == 1) (
                      stopcocklaw19_GatePlays.k1 t0p t0n t0c t3 t4p t4n t4c t5 t6 b2 t6 (decide (t6 < 100)) x1 (x1 == 1) w6 R C1) (
                      stopcocklaw19_GatePlays.k1 t0p t0n t0c t3 t4p t4n t4c t5 t6 b2 t6 (decide (t6 < 100)) x1 (x1 == 2) w6 R C1))))))))) (
      R (.returned (Value.bool true)) w)) (
    R (.returned (Value.bool true)) w)
def stopcocklaw19_GatePlays.l1 (t0p : Option Addr) (t0n : Nat) (t0c : Nat) (t3 : Option Addr) (t4p : Option Addr) (t4n : Nat) (t4c : Nat) (t5 : Int) (t6 : Int) (w : World) (R : Ending → World → Prop) : Prop :=
  ∃ (I : Option Addr → Nat → Nat → Option Addr → Option Addr → Nat → Nat → Int → Int → World → Prop) (m : Option Addr → Nat → Nat → Option Addr → Option Addr → Nat → Nat → Int → Int → World → Nat), I t0p t0n t0c t3 t4p t4n t4c t5 t6 w ∧
  ∀ (t0p : Option Addr) (t0n : Nat) (t0c : Nat) (t3 : Option Addr) (t4p : Option Addr) (t4n : Nat) (t4c : Nat) (t5 : Int) (t6 : Int) (w : World), I t0p t0n t0c t3 t4p t4n t4c t5 t6 w →
  stopcocklaw19_GatePlays.b1 t0p t0n t0c t3 t4p t4n t4c t5 t6 w R (fun t0p' t0n' t0c' t3' t4p' t4n' t4c' t5' t6' w' => I t0p' t0n' t0c' t3' t4p' t4n' t4c' t5' t6' w' ∧ m t0p' t0n' t0c' t3' t4p' t4n' t4c' t5' t6' w' < m t0p t0n t0c t3 t4p t4n t4c t5 t6 w)
def stopcocklaw19_GatePlays.main (a0p : Option Addr) (a0n : Nat) (a0c : Nat) (w : World) (R : Ending → World → Prop) : Prop :=
  callP Try.prog 7 #[] w (fun v1 w1 =>
    dP v1 fun p1 =>
    callP Try.prog 8 #[] w1 (fun v2 w3 =>
      dB v2 fun b1 =>
      cond (!b1) (
        R (.returned (Value.bool false)) w3) (
        cond (Option.isNone p1) (
          R (.returned (Value.bool false)) w3) (
          stopcocklaw19_GatePlays.l1 a0p a0n a0c p1 none 0 0 0 0 w3 R))) (fun ch w4 => R (.panicked ch) w4)) (fun ch w2 => R (.panicked ch) w2)
abbrev stopcocklaw19_GatePlays.C (a0p : Option Addr) (a0n : Nat) (a0c : Nat) (w : World) (R : Ending → World → Prop) : Prop := Calls Try.prog 3 #[(Value.slice a0p a0n a0c)] w R
noncomputable def stopcocklaw19_GatePlays.code : Code := (Try.f3.body).getD .skip
noncomputable def stopcocklaw19_GatePlays.sk (R : Ending → World → Prop) : Sk := (.seq .leaf (.seq .leaf (.seq .leaf (.seq .leaf (.seq .leaf (.seq (.seq .leaf (.block (.loop [(0, .slice), (3, .ptr), (4, .slice), (5, .int .i64), (6, .int .i64)] (fun (t0p : Option Addr) (t0n : Nat) (t0c : Nat) (t3 : Option Addr) (t4p : Option Addr) (t4n : Nat) (t4c : Nat) (t5 : Int) (t6 : Int) (w : World) => stopcocklaw19_GatePlays.l1 t0p t0n t0c t3 t4p t4n t4c t5 t6 w R) (fun (C1 : Option Addr → Nat → Nat → Option Addr → Option Addr → Nat → Nat → Int → Int → World → Prop) => (.seq .leaf (.seq (.block (.seq .leaf (.seq (.seq .leaf (.block (.cut [(0, .slice), (3, .ptr), (4, .slice), (5, .int .i64), (6, .int .i64), (7, .blk), (27, .int .i64), (28, .bool), (37, .int .i64), (58, .bool)] (fun (t0p : Option Addr) (t0n : Nat) (t0c : Nat) (t3 : Option Addr) (t4p : Option Addr) (t4n : Nat) (t4c : Nat) (t5 : Int) (t6 : Int) (t7 : Nat) (t27 : Int) (t28 : Bool) (t37 : Int) (t58 : Bool) (w : World) => stopcocklaw19_GatePlays.k1 t0p t0n t0c t3 t4p t4n t4c t5 t6 t7 t27 t28 t37 t58 w R C1) .leaf (.cond (.seq .leaf (.seq .leaf (.cut [(0, .slice), (3, .ptr), (4, .slice), (5, .int .i64), (6, .int .i64), (7, .blk), (8, .int .i64), (9, .int .i64), (10, .int .i64), (27, .int .i64), (28, .bool)] (fun (t0p : Option Addr) (t0n : Nat) (t0c : Nat) (t3 : Option Addr) (t4p : Option Addr) (t4n : Nat) (t4c : Nat) (t5 : Int) (t6 : Int) (t7 : Nat) (t8 : Int) (t9 : Int) (t10 : Int) (t27 : Int) (t28 : Bool) (w : World) => stopcocklaw19_GatePlays.k3 t0p t0n t0c t3 t4p t4n t4c t5 t6 t7 t8 t9 t10 t27 t28 w R C1) (.cut [(0, .slice), (3, .ptr), (4, .slice), (5, .int .i64), (6, .int .i64), (7, .blk), (8, .int .i64), (9, .int .i64), (10, .int .i64), (27, .int .i64), (28, .bool), (78, .bool)] (fun (t0p : Option Addr) (t0n : Nat) (t0c : Nat) (t3 : Option Addr) (t4p : Option Addr) (t4n : Nat) (t4c : Nat) (t5 : Int) (t6 : Int) (t7 : Nat) (t8 : Int) (t9 : Int) (t10 : Int) (t27 : Int) (t28 : Bool) (t78 : Bool) (w : World) => stopcocklaw19_GatePlays.k2 t0p t0n t0c t3 t4p t4n t4c t5 t6 t7 t8 t9 t10 t27 t28 t78 w R C1) .leaf .leaf) (.cut [(0, .slice), (3, .ptr), (4, .slice), (5, .int .i64), (6, .int .i64), (7, .blk), (8, .int .i64), (9, .int .i64), (27, .int .i64), (28, .bool), (86, .addr), (87, .agg), (88, .int .i64), (89, .bool), (90, .bool), (93, .bool)] (fun (t0p : Option Addr) (t0n : Nat) (t0c : Nat) (t3 : Option Addr) (t4p : Option Addr) (t4n : Nat) (t4c : Nat) (t5 : Int) (t6 : Int) (t7 : Nat) (t8 : Int) (t9 : Int) (t27 : Int) (t28 : Bool) (t86 : Addr) (t87 : Array Value) (t88 : Int) (t89 : Bool) (t90 : Bool) (t93 : Bool) (w : World) => stopcocklaw19_GatePlays.k4 t0p t0n t0c t3 t4p t4n t4c t5 t6 t7 t8 t9 t27 t28 t86 t87 t88 t89 t90 t93 w R C1) .leaf .leaf)))) .leaf)))) .leaf))) .leaf)))))) .leaf))))))
def stopcocklaw19_GatePlays.owed (R : Ending → World → Prop) : Prop :=
  (∀ (t0p : Option Addr) (t0n : Nat) (t0c : Nat) (t3 : Option Addr) (t4p : Option Addr) (t4n : Nat) (t4c : Nat) (t5 : Int) (t6 : Int) (w : World), stopcocklaw19_GatePlays.l1 t0p t0n t0c t3 t4p t4n t4c t5 t6 w R → stopcocklaw19_GatePlays.l1 t0p t0n t0c t3 t4p t4n t4c t5 t6 w R) ∧ (∀ (C1 : Option Addr → Nat → Nat → Option Addr → Option Addr → Nat → Nat → Int → Int → World → Prop), (∀ (t0p : Option Addr) (t0n : Nat) (t0c : Nat) (t3 : Option Addr) (t4p : Option Addr) (t4n : Nat) (t4c : Nat) (t5 : Int) (t6 : Int) (t7 : Nat) (t27 : Int) (t28 : Bool) (t37 : Int) (t58 : Bool) (w : World), stopcocklaw19_GatePlays.k1 t0p t0n t0c t3 t4p t4n t4c t5 t6 t7 t27 t28 t37 t58 w R C1 → stopcocklaw19_GatePlays.k1 t0p t0n t0c t3 t4p t4n t4c t5 t6 t7 t27 t28 t37 t58 w R C1) ∧ (∀ (t0p : Option Addr) (t0n : Nat) (t0c : Nat) (t3 : Option Addr) (t4p : Option Addr) (t4n : Nat) (t4c : Nat) (t5 : Int) (t6 : Int) (t7 : Nat) (t8 : Int) (t9 : Int) (t10 : Int) (t27 : Int) (t28 : Bool) (t78 : Bool) (w : World), stopcocklaw19_GatePlays.k2 t0p t0n t0c t3 t4p t4n t4c t5 t6 t7 t8 t9 t10 t27 t28 t78 w R C1 → stopcocklaw19_GatePlays.k2 t0p t0n t0c t3 t4p t4n t4c t5 t6 t7 t8 t9 t10 t27 t28 t78 w R C1) ∧ (∀ (t0p : Option Addr) (t0n : Nat) (t0c : Nat) (t3 : Option Addr) (t4p : Option Addr) (t4n : Nat) (t4c : Nat) (t5 : Int) (t6 : Int) (t7 : Nat) (t8 : Int) (t9 : Int) (t10 : Int) (t27 : Int) (t28 : Bool) (w : World), stopcocklaw19_GatePlays.k3 t0p t0n t0c t3 t4p t4n t4c t5 t6 t7 t8 t9 t10 t27 t28 w R C1 → stopcocklaw19_GatePlays.k3 t0p t0n t0c t3 t4p t4n t4c t5 t6 t7 t8 t9 t10 t27 t28 w R C1) ∧ (∀ (t0p : Option Addr) (t0n : Nat) (t0c : Nat) (t3 : Option Addr) (t4p : Option Addr) (t4n : Nat) (t4c : Nat) (t5 : Int) (t6 : Int) (t7 : Nat) (t8 : Int) (t9 : Int) (t27 : Int) (t28 : Bool) (t86 : Addr) (t87 : Array Value) (t88 : Int) (t89 : Bool) (t90 : Bool) (t93 : Bool) (w : World), stopcocklaw19_GatePlays.k4 t0p t0n t0c t3 t4p t4n t4c t5 t6 t7 t8 t9 t27 t28 t86 t87 t88 t89 t90 t93 w R C1 → stopcocklaw19_GatePlays.k4 t0p t0n t0c t3 t4p t4n t4c t5 t6 t7 t8 t9 t27 t28 t86 t87 t88 t89 t90 t93 w R C1) ∧ True) ∧ True
theorem stopcocklaw19_GatePlays.pays (R : Ending → World → Prop) : stopcocklaw19_GatePlays.owed R := ⟨(fun _ _ _ _ _ _ _ _ _ _ h => h), (fun _ => ⟨(fun _ _ _ _ _ _ _ _ _ _ _ _ _ _ _ h => h), (fun _ _ _ _ _ _ _ _ _ _ _ _ _ _ _ _ _ h => h), (fun _ _ _ _ _ _ _ _ _ _ _ _ _ _ _ _ h => h), (fun _ _ _ _ _ _ _ _ _ _ _ _ _ _ _ _ _ _ _ _ _ h => h), trivial⟩), trivial⟩
set_option maxRecDepth 100000 in
theorem stopcocklaw19_GatePlays.ok {a0p : Option Addr} {a0n : Nat} {a0c : Nat} {w : World} {R : Ending → World → Prop} (h : stopcocklaw19_GatePlays.main a0p a0n a0c w R) : stopcocklaw19_GatePlays.C a0p a0n a0c w R :=
  ev_ok cxok (c := cx) Try.func3 (code := stopcocklaw19_GatePlays.code) (by kernel_rfl) [.tmp 2] (by kernel_rfl) 148 (by kernel_rfl) (stopcocklaw19_GatePlays.sk R) (args := [(Value.slice a0p a0n a0c)]) (Nat.le_of_ble_eq_true rfl) (by kernel_rfl) (o := stopcocklaw19_GatePlays.owed R) (by kernel_rfl) (stopcocklaw19_GatePlays.pays R) h

/-! ### stopcock/gate.New: function 7 -/
def gate_New.main (w : World) (R : Ending → World → Prop) : Prop :=
  newP w #[(Value.slice none 0 0), (Value.int .i64 0)] 47 fun b1 w1 =>
  R (.returned (Value.pointer (some (⟨b1, 0, none⟩ : Addr)))) w1
abbrev gate_New.C (w : World) (R : Ending → World → Prop) : Prop := Calls Try.prog 7 #[] w R
noncomputable def gate_New.code : Code := (Try.f7.body).getD .skip
noncomputable def gate_New.sk (R : Ending → World → Prop) : Sk := .leaf
def gate_New.owed (R : Ending → World → Prop) : Prop :=
  True
theorem gate_New.pays (R : Ending → World → Prop) : gate_New.owed R := trivial
set_option maxRecDepth 100000 in
theorem gate_New.ok {w : World} {R : Ending → World → Prop} (h : gate_New.main  w R) : gate_New.C  w R :=
  ev_ok cxok (c := cx) Try.func7 (code := gate_New.code) (by kernel_rfl) [.tmp 0] (by kernel_rfl) 3 (by kernel_rfl) (gate_New.sk R) (args := []) (Nat.le_of_ble_eq_true rfl) (by kernel_rfl) (o := gate_New.owed R) (by kernel_rfl) (gate_New.pays R) h

/-! ### stopcock/stopcocklaw19.awake: function 8 -/
def stopcocklaw19_awake.main (w : World) (R : Ending → World → Prop) : Prop :=
  callP Try.prog 7 #[] w (fun v1 w1 =>
    dP v1 fun p1 =>
    cond (Option.isNone p1) (
      R (.returned (Value.bool false)) w1) (
      callP Try.prog 9 #[(Value.pointer p1), (Value.agg #[(Value.int .i64 4), (Value.int .i64 3), (Value.int .i64 0), (Value.int .i64 0), (Value.slice none 0 0)])] w1 (fun v2 w3 =>
        dT v2 fun vs1 =>
        optP (vs1[0]?) fun v3 =>
        dI .i64 v3 fun x1 =>
        optP (vs1[1]?) fun v4 =>
        dI .i64 v4 fun x2 =>
        callP Try.prog 11 #[(Value.pointer p1)] w3 (fun v5 w5 =>
          dT v5 fun vs2 =>
          optP (vs2[0]?) fun v6 =>
          dI .i64 v6 fun x3 =>
          optP (vs2[1]?) fun v7 =>
          dA v7 fun cs1 =>
          optP (vs2[2]?) fun v8 =>
          dI .i64 v8 fun x4 =>
          newP w5 #[(Value.int .i64 0), (Value.int .i64 0), (Value.int .i64 0), (Value.int .i64 0), (Value.slice none 0 0)] 29 fun b1 w7 =>
          chk (decide (cs1.size = 5)) (
            Wr w7 (⟨b1, 0, none⟩ : Addr) cs1.toList ∧ ∀ w8, w8 = w7.setCells (⟨b1, 0, none⟩ : Addr).block (⟨b1, 0, none⟩ : Addr).off cs1.toList →
            (cond (x2 == 0) (
                cond (x4 == 0) (
                  cond (x1 == 1) (
                    cond (x3 == 1) (
                      ∃ (x5 : Int), w8.cell? (⟨b1, 1, none⟩ : Addr) = some (Value.int .i64 x5) ∧
                      (cond (x5 == 3) (
                          callP Try.prog 14 #[(Value.pointer p1)] w8 (fun v9 w9 =>
                          dI .i64 v9 fun x6 =>
                          R (.returned (Value.bool (x6 == 1))) w9) (fun ch w10 => R (.panicked ch) w10)) (
                          R (.returned (Value.bool false)) w8))) (
                      R (.returned (Value.bool false)) w8)) (
                    R (.returned (Value.bool false)) w8)) (
                  R (.returned (Value.bool false)) w8)) (
                R (.returned (Value.bool false)) w8)))) (fun ch w6 => R (.panicked ch) w6)) (fun ch w4 => R (.panicked ch) w4))) (fun ch w2 => R (.panicked ch) w2)
abbrev stopcocklaw19_awake.C (w : World) (R : Ending → World → Prop) : Prop := Calls Try.prog 8 #[] w R
noncomputable def stopcocklaw19_awake.code : Code := (Try.f8.body).getD .skip
noncomputable def stopcocklaw19_awake.sk (R : Ending → World → Prop) : Sk := .leaf
def stopcocklaw19_awake.owed (R : Ending → World → Prop) : Prop :=
  True
theorem stopcocklaw19_awake.pays (R : Ending → World → Prop) : stopcocklaw19_awake.owed R := trivial
set_option maxRecDepth 100000 in
theorem stopcocklaw19_awake.ok {w : World} {R : Ending → World → Prop} (h : stopcocklaw19_awake.main  w R) : stopcocklaw19_awake.C  w R :=
  ev_ok cxok (c := cx) Try.func8 (code := stopcocklaw19_awake.code) (by kernel_rfl) [.tmp 0] (by kernel_rfl) 46 (by kernel_rfl) (stopcocklaw19_awake.sk R) (args := []) (Nat.le_of_ble_eq_true rfl) (by kernel_rfl) (o := stopcocklaw19_awake.owed R) (by kernel_rfl) (stopcocklaw19_awake.pays R) h

/-! ### (*stopcock/gate.Gate).Submit: function 9 -/
def gate_Gate_Submit.main (a0 : Option Addr) (a1_0 : Int) (a1_1 : Int) (a1_2 : Int) (a1_3 : Int) (a1_4p : Option Addr) (a1_4n : Nat) (a1_4c : Nat) (w : World) (R : Ending → World → Prop) : Prop :=
  newP w #[(Value.int .i64 a1_0), (Value.int .i64 a1_1), (Value.int .i64 a1_2), (Value.int .i64 a1_3), (Value.slice a1_4p a1_4n a1_4c)] 29 fun b1 w1 =>
  cond (Option.isNone a0) (
    R (.returned (Value.tuple #[(Value.int .i64 0), (Value.int .i64 1)])) w1) (
    ∃ (cs1 : Array Value), cs1.size = 5 ∧ CellsAt w1 (⟨b1, 0, none⟩ : Addr) cs1.toList ∧
    (callP Try.prog 10 #[(Value.agg cs1)] w1 (fun v1 w2 =>
        dI .i64 v1 fun x1 =>
        cond (x1 != 0) (
          R (.returned (Value.tuple #[(Value.int .i64 0), (Value.int .i64 x1)])) w2) (
          optP a0 fun a1 =>
          ∃ (p1 : Option Addr) (n1 : Nat) (c1 : Nat), w2.cell? a1 = some (Value.slice p1 n1 c1) ∧
          (cond (decide (((n1 : Nat) : Int) ≥ 16)) (
              R (.returned (Value.tuple #[(Value.int .i64 0), (Value.int .i64 12)])) w2) (
              optP a0 fun a2 =>
              ∃ (x2 : Int), w2.cell? (a2.add 1) = some (Value.int .i64 x2) ∧
              (optP a0 fun a3 =>
                (w2.cell? (a3.add 1)).isSome = true ∧ w2.frozen? (a3.add 1) = false ∧ ∀ w4, w4 = w2.setCell (a3.add 1) (Value.int .i64 (IntKind.i64.wrap (x2 + 1))) →
                (optP a0 fun a4 =>
                  ∃ (p2 : Option Addr) (n2 : Nat) (c2 : Nat), w4.drew.cell? a4 = some (Value.slice p2 n2 c2) ∧
                  (∃ (cs2 : Array Value), cs2.size = 5 ∧ CellsAt w4.drew (⟨b1, 0, none⟩ : Addr) cs2.toList ∧
                    (optP a0 fun a5 =>
                      ∃ (x3 : Int), w4.drew.cell? (a5.add 1) = some (Value.int .i64 x3) ∧
                      (callP Try.prog 15 #[(Value.agg cs2)] w4.drew (fun v2 w5 =>
                          dA v2 fun cs3 =>
                          w5.cell? (a5.add 1) = some (Value.int .i64 x3) ∧
                          (w5.cell? a4 = some (Value.slice p2 n2 c2) ∧
                          (optP (Instr.fill (fun i => [(0, 5), (5, 1)].toArray[i]?) #[(Value.int .i64 0), (Value.int .i64 0), (Value.int .i64 0), (Value.int .i64 0), (Value.slice none 0 0), (Value.int .i64 0)] [(0, (Value.agg cs3)), (1, (Value.int .i64 x3))]) fun cs4 =>
                          newP w5 #[(Value.iface 50 (Value.agg cs4))] 20 fun b2 w7 =>
                          w7.cell? a4 = some (Value.slice p2 n2 c2) ∧
                          (appP w7 p2 n2 c2 1 (CellsO w7 (some ⟨b2, 0, none⟩)) 20 1 16 #[Value.nilIface] fun p3 c3 w8 =>
                          optP a0 fun a6 =>
                          (w8.cell? a6).isSome = true ∧ w8.frozen? a6 = false ∧ ∀ w9, w9 = w8.setCell a6 (Value.slice p3 (n2 + 1) c3) →
                          (optP a0 fun a7 =>
                          ∃ (x4 : Int), w9.cell? (a7.add 1) = some (Value.int .i64 x4) ∧
                          (R (.returned (Value.tuple #[(Value.int .i64 x4), (Value.int .i64 0)])) w9)))))) (fun ch w6 => R (.panicked ch) w6)))))))))) (fun ch w3 => R (.panicked ch) w3)))
abbrev gate_Gate_Submit.C (a0 : Option Addr) (a1_0 : Int) (a1_1 : Int) (a1_2 : Int) (a1_3 : Int) (a1_4p : Option Addr) (a1_4n : Nat) (a1_4c : Nat) (w : World) (R : Ending → World → Prop) : Prop := Calls Try.prog 9 #[(Value.pointer a0), (Value.agg #[(Value.int .i64 a1_0), (Value.int .i64 a1_1), (Value.int .i64 a1_2), (Value.int .i64 a1_3), (Value.slice a1_4p a1_4n a1_4c)])] w R
noncomputable def gate_Gate_Submit.code : Code := (Try.f9.body).getD .skip
noncomputable def gate_Gate_Submit.sk (R : Ending → World → Prop) : Sk := .leaf
def gate_Gate_Submit.owed (R : Ending → World → Prop) : Prop :=
  True
theorem gate_Gate_Submit.pays (R : Ending → World → Prop) : gate_Gate_Submit.owed R := trivial
set_option maxRecDepth 100000 in
theorem gate_Gate_Submit.ok {a0 : Option Addr} {a1_0 : Int} {a1_1 : Int} {a1_2 : Int} {a1_3 : Int} {a1_4p : Option Addr} {a1_4n : Nat} {a1_4c : Nat} {w : World} {R : Ending → World → Prop} (h : gate_Gate_Submit.main a0 a1_0 a1_1 a1_2 a1_3 a1_4p a1_4n a1_4c w R) : gate_Gate_Submit.C a0 a1_0 a1_1 a1_2 a1_3 a1_4p a1_4n a1_4c w R :=
  ev_ok cxok (c := cx) Try.func9 (code := gate_Gate_Submit.code) (by kernel_rfl) [.tmp 4, .tmp 5] (by kernel_rfl) 48 (by kernel_rfl) (gate_Gate_Submit.sk R) (args := [(Value.pointer a0), (Value.agg #[(Value.int .i64 a1_0), (Value.int .i64 a1_1), (Value.int .i64 a1_2), (Value.int .i64 a1_3), (Value.slice a1_4p a1_4n a1_4c)])]) (Nat.le_of_ble_eq_true rfl) (by kernel_rfl) (o := gate_Gate_Submit.owed R) (by kernel_rfl) (gate_Gate_Submit.pays R) h

/-! ### stopcock/gate.Check: function 10 -/
def gate_Check.main (a0_0 : Int) (a0_1 : Int) (a0_2 : Int) (a0_3 : Int) (a0_4p : Option Addr) (a0_4n : Nat) (a0_4c : Nat) (w : World) (R : Ending → World → Prop) : Prop :=
  newP w #[(Value.int .i64 a0_0), (Value.int .i64 a0_1), (Value.int .i64 a0_2), (Value.int .i64 a0_3), (Value.slice a0_4p a0_4n a0_4c)] 29 fun b1 w1 =>
  ∃ (x1 : Int), w1.cell? (⟨b1, 0, none⟩ : Addr) = some (Value.int .i64 x1) ∧
  (cond (decide (x1 < 1)) (
      R (.returned (Value.int .i64 1)) w1) (
      ∃ (x2 : Int), w1.cell? (⟨b1, 0, none⟩ : Addr) = some (Value.int .i64 x2) ∧
      (cond (decide (x2 > 9)) (
          R (.returned (Value.int .i64 1)) w1) (
          R (.returned (Value.int .i64 0)) w1))))
abbrev gate_Check.C (a0_0 : Int) (a0_1 : Int) (a0_2 : Int) (a0_3 : Int) (a0_4p : Option Addr) (a0_4n : Nat) (a0_4c : Nat) (w : World) (R : Ending → World → Prop) : Prop := Calls Try.prog 10 #[(Value.agg #[(Value.int .i64 a0_0), (Value.int .i64 a0_1), (Value.int .i64 a0_2), (Value.int .i64 a0_3), (Value.slice a0_4p a0_4n a0_4c)])] w R
noncomputable def gate_Check.code : Code := (Try.f10.body).getD .skip
noncomputable def gate_Check.sk (R : Ending → World → Prop) : Sk := .leaf
def gate_Check.owed (R : Ending → World → Prop) : Prop :=
  True
theorem gate_Check.pays (R : Ending → World → Prop) : gate_Check.owed R := trivial
set_option maxRecDepth 100000 in
theorem gate_Check.ok {a0_0 : Int} {a0_1 : Int} {a0_2 : Int} {a0_3 : Int} {a0_4p : Option Addr} {a0_4n : Nat} {a0_4c : Nat} {w : World} {R : Ending → World → Prop} (h : gate_Check.main a0_0 a0_1 a0_2 a0_3 a0_4p a0_4n a0_4c w R) : gate_Check.C a0_0 a0_1 a0_2 a0_3 a0_4p a0_4n a0_4c w R :=
  ev_ok cxok (c := cx) Try.func10 (code := gate_Check.code) (by kernel_rfl) [.tmp 2] (by kernel_rfl) 11 (by kernel_rfl) (gate_Check.sk R) (args := [(Value.agg #[(Value.int .i64 a0_0), (Value.int .i64 a0_1), (Value.int .i64 a0_2), (Value.int .i64 a0_3), (Value.slice a0_4p a0_4n a0_4c)])]) (Nat.le_of_ble_eq_true rfl) (by kernel_rfl) (o := gate_Check.owed R) (by kernel_rfl) (gate_Check.pays R) h

/-! ### (*stopcock/gate.Gate).First: function 11 -/
def gate_Gate_First.main (a0 : Option Addr) (w : World) (R : Ending → World → Prop) : Prop :=
  newP w #[(Value.int .i64 0), (Value.int .i64 0), (Value.int .i64 0), (Value.int .i64 0), (Value.slice none 0 0)] 29 fun b1 w1 =>
  cond (Option.isNone a0) (
    Wr w1 (⟨b1, 0, none⟩ : Addr) [(Value.int .i64 0), (Value.int .i64 0), (Value.int .i64 0), (Value.int .i64 0), (Value.slice none 0 0)] ∧ ∀ w2, w2 = w1.setCells (⟨b1, 0, none⟩ : Addr).block (⟨b1, 0, none⟩ : Addr).off [(Value.int .i64 0), (Value.int .i64 0), (Value.int .i64 0), (Value.int .i64 0), (Value.slice none 0 0)] →
    (∃ (cs1 : Array Value), cs1.size = 5 ∧ CellsAt w2 (⟨b1, 0, none⟩ : Addr) cs1.toList ∧
      (R (.returned (Value.tuple #[(Value.int .i64 0), (Value.agg cs1), (Value.int .i64 1)])) w2))) (
    optP a0 fun a1 =>
    ∃ (p1 : Option Addr) (n1 : Nat) (c1 : Nat), w1.cell? a1 = some (Value.slice p1 n1 c1) ∧
    (cond (((n1 : Nat) : Int) == 0) (
        Wr w1 (⟨b1, 0, none⟩ : Addr) [(Value.int .i64 0), (Value.int .i64 0), (Value.int .i64 0), (Value.int .i64 0), (Value.slice none 0 0)] ∧ ∀ w3, w3 = w1.setCells (⟨b1, 0, none⟩ : Addr).block (⟨b1, 0, none⟩ : Addr).off [(Value.int .i64 0), (Value.int .i64 0), (Value.int .i64 0), (Value.int .i64 0), (Value.slice none 0 0)] →
        (∃ (cs2 : Array Value), cs2.size = 5 ∧ CellsAt w3 (⟨b1, 0, none⟩ : Addr) cs2.toList ∧
          (R (.returned (Value.tuple #[(Value.int .i64 0), (Value.agg cs2), (Value.int .i64 4)])) w3))) (
        optP a0 fun a2 =>
        ∃ (p2 : Option Addr) (n2 : Nat) (c2 : Nat), w1.cell? a2 = some (Value.slice p2 n2 c2) ∧
        (chk (decide (0 < ((n2 : Nat) : Int))) (
            optP p2 fun a3 =>
            ∃ (v1 : Value), w1.cell? a3 = some v1 ∧
            ((match v1 with | .iface u1 v2 => chk (decide (u1 = 50)) (
                  dA v2 fun cs3 =>
                  newP w1 #[(Value.int .i64 0), (Value.int .i64 0), (Value.int .i64 0), (Value.int .i64 0), (Value.slice none 0 0), (Value.int .i64 0)] 50 fun b2 w4 =>
                  chk (decide (cs3.size = 6)) (
                    Wr w4 (⟨b2, 0, none⟩ : Addr) cs3.toList ∧ ∀ w5, w5 = w4.setCells (⟨b2, 0, none⟩ : Addr).block (⟨b2, 0, none⟩ : Addr).off cs3.toList →
                    (∃ (x1 : Int), w5.drew.cell? (⟨b2, 5, none⟩ : Addr) = some (Value.int .i64 x1) ∧
                      (∃ (cs4 : Array Value), cs4.size = 5 ∧ CellsAt w5.drew (⟨b2, 0, none⟩ : Addr) cs4.toList ∧
                        (callP Try.prog 15 #[(Value.agg cs4)] w5.drew (fun v3 w6 =>
                          dA v3 fun cs5 =>
                          w6.cell? (⟨b2, 5, none⟩ : Addr) = some (Value.int .i64 x1) ∧
                          (chk (decide (cs5.size = 5)) (
                          Wr w6 (⟨b1, 0, none⟩ : Addr) cs5.toList ∧ ∀ w8, w8 = w6.setCells (⟨b1, 0, none⟩ : Addr).block (⟨b1, 0, none⟩ : Addr).off cs5.toList →
                          (∃ (cs6 : Array Value), cs6.size = 5 ∧ CellsAt w8 (⟨b1, 0, none⟩ : Addr) cs6.toList ∧
                          (R (.returned (Value.tuple #[(Value.int .i64 x1), (Value.agg cs6), (Value.int .i64 0)])) w8))))) (fun ch w7 => R (.panicked ch) w7)))))) | _ => False)))))))
abbrev gate_Gate_First.C (a0 : Option Addr) (w : World) (R : Ending → World → Prop) : Prop := Calls Try.prog 11 #[(Value.pointer a0)] w R
noncomputable def gate_Gate_First.code : Code := (Try.f11.body).getD .skip
noncomputable def gate_Gate_First.sk (R : Ending → World → Prop) : Sk := .leaf
def gate_Gate_First.owed (R : Ending → World → Prop) : Prop :=
  True
theorem gate_Gate_First.pays (R : Ending → World → Prop) : gate_Gate_First.owed R := trivial
set_option maxRecDepth 100000 in
theorem gate_Gate_First.ok {a0 : Option Addr} {w : World} {R : Ending → World → Prop} (h : gate_Gate_First.main a0 w R) : gate_Gate_First.C a0 w R :=
  ev_ok cxok (c := cx) Try.func11 (code := gate_Gate_First.code) (by kernel_rfl) [.tmp 2, .cell 3 29, .tmp 4] (by kernel_rfl) 37 (by kernel_rfl) (gate_Gate_First.sk R) (args := [(Value.pointer a0)]) (Nat.le_of_ble_eq_true rfl) (by kernel_rfl) (o := gate_Gate_First.owed R) (by kernel_rfl) (gate_Gate_First.pays R) h

/-! ### stopcock/stopcocklaw19.same: function 12 -/
def stopcocklaw19_same.main (a0_0 : Int) (a0_1 : Int) (a0_2 : Int) (a0_3 : Int) (a0_4p : Option Addr) (a0_4n : Nat) (a0_4c : Nat) (a1_0 : Int) (a1_1 : Int) (a1_2 : Int) (a1_3 : Int) (a1_4p : Option Addr) (a1_4n : Nat) (a1_4c : Nat) (w : World) (R : Ending → World → Prop) : Prop :=
  newP w #[(Value.int .i64 a0_0), (Value.int .i64 a0_1), (Value.int .i64 a0_2), (Value.int .i64 a0_3), (Value.slice a0_4p a0_4n a0_4c)] 29 fun b1 w1 =>
  newP w1 #[(Value.int .i64 a1_0), (Value.int .i64 a1_1), (Value.int .i64 a1_2), (Value.int .i64 a1_3), (Value.slice a1_4p a1_4n a1_4c)] 29 fun b2 w2 =>
  ∃ (x1 : Int), w2.cell? (⟨b1, 0, none⟩ : Addr) = some (Value.int .i64 x1) ∧
  (∃ (x2 : Int), w2.cell? (⟨b2, 0, none⟩ : Addr) = some (Value.int .i64 x2) ∧
    (cond (x1 == x2) (
        ∃ (x3 : Int), w2.cell? (⟨b1, 1, none⟩ : Addr) = some (Value.int .i64 x3) ∧
        (∃ (x4 : Int), w2.cell? (⟨b2, 1, none⟩ : Addr) = some (Value.int .i64 x4) ∧
          (cond (x3 == x4) (
              ∃ (x5 : Int), w2.cell? (⟨b1, 2, none⟩ : Addr) = some (Value.int .i64 x5) ∧
              (∃ (x6 : Int), w2.cell? (⟨b2, 2, none⟩ : Addr) = some (Value.int .i64 x6) ∧
                (cond (x5 == x6) (
                    ∃ (x7 : Int), w2.cell? (⟨b1, 3, none⟩ : Addr) = some (Value.int .i64 x7) ∧
                    (∃ (x8 : Int), w2.cell? (⟨b2, 3, none⟩ : Addr) = some (Value.int .i64 x8) ∧
                      (cond (x7 == x8) (
                          ∃ (p1 : Option Addr) (n1 : Nat) (c1 : Nat), w2.cell? (⟨b1, 4, none⟩ : Addr) = some (Value.slice p1 n1 c1) ∧
                          (∃ (ns1 : List Int), ns1.length = n1 ∧ CellsO w2 p1 (ns1.map (Value.int .u8)) ∧
                          (∃ (p2 : Option Addr) (n2 : Nat) (c2 : Nat), w2.cell? (⟨b2, 4, none⟩ : Addr) = some (Value.slice p2 n2 c2) ∧
                          (∃ (ns2 : List Int), ns2.length = n2 ∧ CellsO w2 p2 (ns2.map (Value.int .u8)) ∧
                          (R (.returned (Value.bool ((strOf ns1).toList == (strOf ns2).toList))) w2))))) (
                          R (.returned (Value.bool false)) w2)))) (
                    R (.returned (Value.bool false)) w2)))) (
              R (.returned (Value.bool false)) w2)))) (
        R (.returned (Value.bool false)) w2)))
abbrev stopcocklaw19_same.C (a0_0 : Int) (a0_1 : Int) (a0_2 : Int) (a0_3 : Int) (a0_4p : Option Addr) (a0_4n : Nat) (a0_4c : Nat) (a1_0 : Int) (a1_1 : Int) (a1_2 : Int) (a1_3 : Int) (a1_4p : Option Addr) (a1_4n : Nat) (a1_4c : Nat) (w : World) (R : Ending → World → Prop) : Prop := Calls Try.prog 12 #[(Value.agg #[(Value.int .i64 a0_0), (Value.int .i64 a0_1), (Value.int .i64 a0_2), (Value.int .i64 a0_3), (Value.slice a0_4p a0_4n a0_4c)]), (Value.agg #[(Value.int .i64 a1_0), (Value.int .i64 a1_1), (Value.int .i64 a1_2), (Value.int .i64 a1_3), (Value.slice a1_4p a1_4n a1_4c)])] w R
noncomputable def stopcocklaw19_same.code : Code := (Try.f12.body).getD .skip
noncomputable def stopcocklaw19_same.sk (R : Ending → World → Prop) : Sk := .leaf
def stopcocklaw19_same.owed (R : Ending → World → Prop) : Prop :=
  True
theorem stopcocklaw19_same.pays (R : Ending → World → Prop) : stopcocklaw19_same.owed R := trivial
set_option maxRecDepth 100000 in
theorem stopcocklaw19_same.ok {a0_0 : Int} {a0_1 : Int} {a0_2 : Int} {a0_3 : Int} {a0_4p : Option Addr} {a0_4n : Nat} {a0_4c : Nat} {a1_0 : Int} {a1_1 : Int} {a1_2 : Int} {a1_3 : Int} {a1_4p : Option Addr} {a1_4n : Nat} {a1_4c : Nat} {w : World} {R : Ending → World → Prop} (h : stopcocklaw19_same.main a0_0 a0_1 a0_2 a0_3 a0_4p a0_4n a0_4c a1_0 a1_1 a1_2 a1_3 a1_4p a1_4n a1_4c w R) : stopcocklaw19_same.C a0_0 a0_1 a0_2 a0_3 a0_4p a0_4n a0_4c a1_0 a1_1 a1_2 a1_3 a1_4p a1_4n a1_4c w R :=
  ev_ok cxok (c := cx) Try.func12 (code := stopcocklaw19_same.code) (by kernel_rfl) [.tmp 4] (by kernel_rfl) 40 (by kernel_rfl) (stopcocklaw19_same.sk R) (args := [(Value.agg #[(Value.int .i64 a0_0), (Value.int .i64 a0_1), (Value.int .i64 a0_2), (Value.int .i64 a0_3), (Value.slice a0_4p a0_4n a0_4c)]), (Value.agg #[(Value.int .i64 a1_0), (Value.int .i64 a1_1), (Value.int .i64 a1_2), (Value.int .i64 a1_3), (Value.slice a1_4p a1_4n a1_4c)])]) (Nat.le_of_ble_eq_true rfl) (by kernel_rfl) (o := stopcocklaw19_same.owed R) (by kernel_rfl) (stopcocklaw19_same.pays R) h

/-! ### (*stopcock/gate.Gate).Done: function 13 -/
def gate_Gate_Done.main (a0 : Option Addr) (w : World) (R : Ending → World → Prop) : Prop :=
  callP Try.prog 11 #[(Value.pointer a0)] w (fun v1 w1 =>
    dT v1 fun vs1 =>
    optP (vs1[0]?) fun v2 =>
    dI .i64 v2 fun x1 =>
    optP (vs1[1]?) fun v3 =>
    dA v3 fun cs1 =>
    optP (vs1[2]?) fun v4 =>
    dI .i64 v4 fun x2 =>
    newP w1 #[(Value.int .i64 0), (Value.int .i64 0), (Value.int .i64 0), (Value.int .i64 0), (Value.slice none 0 0)] 29 fun b1 w3 =>
    chk (decide (cs1.size = 5)) (
      Wr w3 (⟨b1, 0, none⟩ : Addr) cs1.toList ∧ ∀ w4, w4 = w3.setCells (⟨b1, 0, none⟩ : Addr).block (⟨b1, 0, none⟩ : Addr).off cs1.toList →
      (cond (x2 != 0) (
          R (.returned (Value.int .i64 x2)) w4) (
          optP a0 fun a1 =>
          ∃ (p1 : Option Addr) (n1 : Nat) (c1 : Nat), w4.cell? a1 = some (Value.slice p1 n1 c1) ∧
          (chk (decide (1 ≤ ((n1 : Nat) : Int))) (
              optP a0 fun a2 =>
              (w4.cell? a2).isSome = true ∧ w4.frozen? a2 = false ∧ ∀ w5, w5 = w4.setCell a2 (Value.slice (slA p1 c1 1 1) (n1 - 1) (c1 - 1)) →
              (R (.returned (Value.int .i64 0)) w5))))))) (fun ch w2 => R (.panicked ch) w2)
abbrev gate_Gate_Done.C (a0 : Option Addr) (w : World) (R : Ending → World → Prop) : Prop := Calls Try.prog 13 #[(Value.pointer a0)] w R
noncomputable def gate_Gate_Done.code : Code := (Try.f13.body).getD .skip
noncomputable def gate_Gate_Done.sk (R : Ending → World → Prop) : Sk := .leaf
def gate_Gate_Done.owed (R : Ending → World → Prop) : Prop :=
  True
theorem gate_Gate_Done.pays (R : Ending → World → Prop) : gate_Gate_Done.owed R := trivial
set_option maxRecDepth 100000 in
theorem gate_Gate_Done.ok {a0 : Option Addr} {w : World} {R : Ending → World → Prop} (h : gate_Gate_Done.main a0 w R) : gate_Gate_Done.C a0 w R :=
  ev_ok cxok (c := cx) Try.func13 (code := gate_Gate_Done.code) (by kernel_rfl) [.tmp 2] (by kernel_rfl) 23 (by kernel_rfl) (gate_Gate_Done.sk R) (args := [(Value.pointer a0)]) (Nat.le_of_ble_eq_true rfl) (by kernel_rfl) (o := gate_Gate_Done.owed R) (by kernel_rfl) (gate_Gate_Done.pays R) h

/-! ### (*stopcock/gate.Gate).Len: function 14 -/
def gate_Gate_Len.main (a0 : Option Addr) (w : World) (R : Ending → World → Prop) : Prop :=
  cond (Option.isNone a0) (
    R (.returned (Value.int .i64 0)) w) (
    optP a0 fun a1 =>
    ∃ (p1 : Option Addr) (n1 : Nat) (c1 : Nat), w.cell? a1 = some (Value.slice p1 n1 c1) ∧
    (R (.returned (Value.int .i64 ((n1 : Nat) : Int))) w))
abbrev gate_Gate_Len.C (a0 : Option Addr) (w : World) (R : Ending → World → Prop) : Prop := Calls Try.prog 14 #[(Value.pointer a0)] w R
noncomputable def gate_Gate_Len.code : Code := (Try.f14.body).getD .skip
noncomputable def gate_Gate_Len.sk (R : Ending → World → Prop) : Sk := .leaf
def gate_Gate_Len.owed (R : Ending → World → Prop) : Prop :=
  True
theorem gate_Gate_Len.pays (R : Ending → World → Prop) : gate_Gate_Len.owed R := trivial
set_option maxRecDepth 100000 in
theorem gate_Gate_Len.ok {a0 : Option Addr} {w : World} {R : Ending → World → Prop} (h : gate_Gate_Len.main a0 w R) : gate_Gate_Len.C a0 w R :=
  ev_ok cxok (c := cx) Try.func14 (code := gate_Gate_Len.code) (by kernel_rfl) [.tmp 2] (by kernel_rfl) 10 (by kernel_rfl) (gate_Gate_Len.sk R) (args := [(Value.pointer a0)]) (Nat.le_of_ble_eq_true rfl) (by kernel_rfl) (o := gate_Gate_Len.owed R) (by kernel_rfl) (gate_Gate_Len.pays R) h

/-! ### stopcock/gate.clone: function 15 -/
def gate_clone.main (a0_0 : Int) (a0_1 : Int) (a0_2 : Int) (a0_3 : Int) (a0_4p : Option Addr) (a0_4n : Nat) (a0_4c : Nat) (w : World) (R : Ending → World → Prop) : Prop :=
  newP w #[(Value.int .i64 a0_0), (Value.int .i64 a0_1), (Value.int .i64 a0_2), (Value.int .i64 a0_3), (Value.slice a0_4p a0_4n a0_4c)] 29 fun b1 w1 =>
  newP w1 #[(Value.int .i64 0), (Value.int .i64 0), (Value.int .i64 0), (Value.int .i64 0), (Value.slice none 0 0)] 29 fun b2 w2 =>
  ∃ (p1 : Option Addr) (n1 : Nat) (c1 : Nat), w2.cell? (⟨b1, 4, none⟩ : Addr) = some (Value.slice p1 n1 c1) ∧
  (callP Try.prog 16 #[(Value.slice p1 n1 c1)] w2 (fun v1 w3 =>
      dS v1 fun p2 n2 c2 =>
      (w3.cell? (⟨b1, 4, none⟩ : Addr)).isSome = true ∧ w3.frozen? (⟨b1, 4, none⟩ : Addr) = false ∧ ∀ w5, w5 = w3.setCell (⟨b1, 4, none⟩ : Addr) (Value.slice p2 n2 c2) →
      (∃ (cs1 : Array Value), cs1.size = 5 ∧ CellsAt w5 (⟨b1, 0, none⟩ : Addr) cs1.toList ∧
        (chk (decide (cs1.size = 5)) (
            Wr w5 (⟨b2, 0, none⟩ : Addr) cs1.toList ∧ ∀ w6, w6 = w5.setCells (⟨b2, 0, none⟩ : Addr).block (⟨b2, 0, none⟩ : Addr).off cs1.toList →
            (∃ (cs2 : Array Value), cs2.size = 5 ∧ CellsAt w6 (⟨b2, 0, none⟩ : Addr) cs2.toList ∧
              (R (.returned (Value.agg cs2)) w6)))))) (fun ch w4 => R (.panicked ch) w4))
abbrev gate_clone.C (a0_0 : Int) (a0_1 : Int) (a0_2 : Int) (a0_3 : Int) (a0_4p : Option Addr) (a0_4n : Nat) (a0_4c : Nat) (w : World) (R : Ending → World → Prop) : Prop := Calls Try.prog 15 #[(Value.agg #[(Value.int .i64 a0_0), (Value.int .i64 a0_1), (Value.int .i64 a0_2), (Value.int .i64 a0_3), (Value.slice a0_4p a0_4n a0_4c)])] w R
noncomputable def gate_clone.code : Code := (Try.f15.body).getD .skip
noncomputable def gate_clone.sk (R : Ending → World → Prop) : Sk := .leaf
def gate_clone.owed (R : Ending → World → Prop) : Prop :=
  True
theorem gate_clone.pays (R : Ending → World → Prop) : gate_clone.owed R := trivial
set_option maxRecDepth 100000 in
theorem gate_clone.ok {a0_0 : Int} {a0_1 : Int} {a0_2 : Int} {a0_3 : Int} {a0_4p : Option Addr} {a0_4n : Nat} {a0_4c : Nat} {w : World} {R : Ending → World → Prop} (h : gate_clone.main a0_0 a0_1 a0_2 a0_3 a0_4p a0_4n a0_4c w R) : gate_clone.C a0_0 a0_1 a0_2 a0_3 a0_4p a0_4n a0_4c w R :=
  ev_ok cxok (c := cx) Try.func15 (code := gate_clone.code) (by kernel_rfl) [.cell 2 29] (by kernel_rfl) 8 (by kernel_rfl) (gate_clone.sk R) (args := [(Value.agg #[(Value.int .i64 a0_0), (Value.int .i64 a0_1), (Value.int .i64 a0_2), (Value.int .i64 a0_3), (Value.slice a0_4p a0_4n a0_4c)])]) (Nat.le_of_ble_eq_true rfl) (by kernel_rfl) (o := gate_clone.owed R) (by kernel_rfl) (gate_clone.pays R) h

/-! ### bytes.Clone: function 16 -/
def bytes_Clone.main (a0p : Option Addr) (a0n : Nat) (a0c : Nat) (w : World) (R : Ending → World → Prop) : Prop :=
  cond (Option.isNone a0p) (
    R (.returned (Value.slice none 0 0)) w) (
    newP w #[] 5 fun b1 w1 =>
    appP w1 (some ⟨b1, 0, none⟩) 0 0 a0n (CellsO w1 a0p) 5 1 1 #[(Value.int .u8 0)] fun p1 c1 w2 =>
    R (.returned (Value.slice p1 (0 + a0n) c1)) w2)
abbrev bytes_Clone.C (a0p : Option Addr) (a0n : Nat) (a0c : Nat) (w : World) (R : Ending → World → Prop) : Prop := Calls Try.prog 16 #[(Value.slice a0p a0n a0c)] w R
noncomputable def bytes_Clone.code : Code := (Try.f16.body).getD .skip
noncomputable def bytes_Clone.sk (R : Ending → World → Prop) : Sk := .leaf
def bytes_Clone.owed (R : Ending → World → Prop) : Prop :=
  True
theorem bytes_Clone.pays (R : Ending → World → Prop) : bytes_Clone.owed R := trivial
set_option maxRecDepth 100000 in
theorem bytes_Clone.ok {a0p : Option Addr} {a0n : Nat} {a0c : Nat} {w : World} {R : Ending → World → Prop} (h : bytes_Clone.main a0p a0n a0c w R) : bytes_Clone.C a0p a0n a0c w R :=
  ev_ok cxok (c := cx) Try.func16 (code := bytes_Clone.code) (by kernel_rfl) [.tmp 2] (by kernel_rfl) 8 (by kernel_rfl) (bytes_Clone.sk R) (args := [(Value.slice a0p a0n a0c)]) (Nat.le_of_ble_eq_true rfl) (by kernel_rfl) (o := bytes_Clone.owed R) (by kernel_rfl) (bytes_Clone.pays R) h

/-! ### stopcock/stopcocklaw19.GateOrder: function 4 -/
def stopcocklaw19_GateOrder.k2 (t3 : Option Addr) (t4p : Option Addr) (t4n : Nat) (t4c : Nat) (t8 : Int) (t67 : Array Value) (t68p : Option Addr) (t68n : Nat) (t68c : Nat) (t69 : Int) (t70 : Addr) (t71 : Array Value) (t72 : Bool) (t73 : Bool) (w : World) (R : Ending → World → Prop) (C2 : Option Addr → Option Addr → Nat → Nat → Int → World → Prop) : Prop :=
  callP Try.prog 11 #[(Value.pointer t3)] w (fun v11 w17 =>
    dT v11 fun vs3 =>
    optP (vs3[0]?) fun v12 =>
    dI .i64 v12 fun x6 =>
    optP (vs3[1]?) fun v13 =>
    dA v13 fun cs7 =>
    optP (vs3[2]?) fun v14 =>
    dI .i64 v14 fun x7 =>
    newP w17 #[(Value.int .i64 0), (Value.int .i64 0), (Value.int .i64 0), (Value.int .i64 0), (Value.slice none 0 0)] 29 fun b6 w19 =>
    chk (decide (cs7.size = 5)) (
      Wr w19 (⟨b6, 0, none⟩ : Addr) cs7.toList ∧ ∀ w20, w20 = w19.setCells (⟨b6, 0, none⟩ : Addr).block (⟨b6, 0, none⟩ : Addr).off cs7.toList →
      (cond (x7 != 0) (
          R (.returned (Value.bool false)) w20.drew) (
          ∃ (cs8 : Array Value), cs8.size = 5 ∧ CellsAt w20.drew (⟨b6, 0, none⟩ : Addr) cs8.toList ∧
          (chk (decide (0 ≤ t8)) (
              chk (decide (t8 < ((t4n : Nat) : Int))) (
                optP t4p fun a6 =>
                ∃ (cs9 : Array Value), cs9.size = 5 ∧ CellsAt w20.drew (a6.add (t8.toNat * 5)) cs9.toList ∧
                (callP Try.prog 12 #[(Value.agg cs8), (Value.agg cs9)] w20.drew (fun v15 w21 =>
                    dB v15 fun b7 =>
                    cond (!b7) (
                      R (.returned (Value.bool false)) w21) (
                      callP Try.prog 13 #[(Value.pointer t3)] w21 (fun v16 w23 =>
                        dI .i64 v16 fun x8 =>
                        cond (x8 != 0) (
                          R (.returned (Value.bool false)) w23) (
                          C2 t3 t4p t4n t4c (IntKind.i64.wrap (t8 + 1)) w23)) (fun ch w24 => R (.panicked ch) w24))) (fun ch w22 => R (.panicked ch) w22))))))))) (fun ch w18 => R (.panicked ch) w18)
def stopcocklaw19_GateOrder.b3 (t3 : Option Addr) (t4p : Option Addr) (t4n : Nat) (t4c : Nat) (t8 : Int) (t10 : Nat) (t12 : Int) (t67 : Array Value) (t68p : Option Addr) (t68n : Nat) (t68c : Nat) (t69 : Int) (t70 : Addr) (t71 : Array Value) (t72 : Bool) (t73 : Bool) (w : World) (R : Ending → World → Prop) (C2 : Option Addr → Option Addr → Nat → Nat → Int → World → Prop) (C3 : Option Addr → Option Addr → Nat → Nat → Int → Nat → Int → Array Value → Option Addr → Nat → Nat → Int → Addr → Array Value → Bool → Bool → World → Prop) : Prop :=
  ∃ (p3 : Option Addr) (n1 : Nat) (c2 : Nat), w.cell? (⟨t10, 4, none⟩ : Addr) = some (Value.slice p3 n1 c2) ∧
  (cond (decide (t12 < ((n1 : Nat) : Int))) (
      ∃ (p4 : Option Addr) (n2 : Nat) (c3 : Nat), w.cell? (⟨t10, 4, none⟩ : Addr) = some (Value.slice p4 n2 c3) ∧
      (chk (decide (0 ≤ t12)) (
          chk (decide (t12 < ((n2 : Nat) : Int))) (
            optP p4 fun a4 =>
            ∃ (x5 : Int), w.cell? (a4.add (t12.toNat * 1)) = some (Value.int .u8 x5) ∧
            (chk (decide (0 ≤ t12)) (
                chk (decide (t12 < ((n2 : Nat) : Int))) (
                  optP p4 fun a5 =>
                  (w.cell? (a5.add (t12.toNat * 1))).isSome = true ∧ w.frozen? (a5.add (t12.toNat * 1)) = false ∧ ∀ w16, w16 = w.setCell (a5.add (t12.toNat * 1)) (Value.int .u8 (IntKind.u8.wrap (BitVec.ofInt IntKind.u8.bits x5 ^^^ BitVec.ofInt IntKind.u8.bits 255).toNat)) →
                  (C3 t3 t4p t4n t4c t8 t10 (IntKind.i64.wrap (t12 + 1)) t67 t68p t68n t68c t69 t70 t71 t72 t73 w16)))))))) (
      stopcocklaw19_GateOrder.k2 t3 t4p t4n t4c t8 t67 t68p t68n t68c t69 t70 t71 t72 t73 w R C2))
def stopcocklaw19_GateOrder.l3 (t3 : Option Addr) (t4p : Option Addr) (t4n : Nat) (t4c : Nat) (t8 : Int) (t10 : Nat) (t12 : Int) (t67 : Array Value) (t68p : Option Addr) (t68n : Nat) (t68c : Nat) (t69 : Int) (t70 : Addr) (t71 : Array Value) (t72 : Bool) (t73 : Bool) (w : World) (R : Ending → World → Prop) (C2 : Option Addr → Option Addr → Nat → Nat → Int → World → Prop) : Prop :=
  ∃ (I : Option Addr → Option Addr → Nat → Nat → Int → Nat → Int → Array Value → Option Addr → Nat → Nat → Int → Addr → Array Value → Bool → Bool → World → Prop) (m : Option Addr → Option Addr → Nat → Nat → Int → Nat → Int → Array Value → Option Addr → Nat → Nat → Int → Addr → Array Value → Bool → Bool → World → Nat), I t3 t4p t4n t4c t8 t10 t12 t67 t68p t68n t68c t69 t70 t71 t72 t73 w ∧
  ∀ (t3 : Option Addr) (t4p : Option Addr) (t4n : Nat) (t4c : Nat) (t8 : Int) (t10 : Nat) (t12 : Int) (t67 : Array Value) (t68p : Option Addr) (t68n : Nat) (t68c : Nat) (t69 : Int) (t70 : Addr) (t71 : Array Value) (t72 : Bool) (t73 : Bool) (w : World), I t3 t4p t4n t4c t8 t10 t12 t67 t68p t68n t68c t69 t70 t71 t72 t73 w →
  stopcocklaw19_GateOrder.b3 t3 t4p t4n t4c t8 t10 t12 t67 t68p t68n t68c t69 t70 t71 t72 t73 w R C2 (fun t3' t4p' t4n' t4c' t8' t10' t12' t67' t68p' t68n' t68c' t69' t70' t71' t72' t73' w' => I t3' t4p' t4n' t4c' t8' t10' t12' t67' t68p' t68n' t68c' t69' t70' t71' t72' t73' w' ∧ m t3' t4p' t4n' t4c' t8' t10' t12' t67' t68p' t68n' t68c' t69' t70' t71' t72' t73' w' < m t3 t4p t4n t4c t8 t10 t12 t67 t68p t68n t68c t69 t70 t71 t72 t73 w)
def stopcocklaw19_GateOrder.k3 (t3 : Option Addr) (w : World) (R : Ending → World → Prop) : Prop :=
  callP Try.prog 14 #[(Value.pointer t3)] w (fun v17 w25 =>
    dI .i64 v17 fun x9 =>
    cond (x9 == 0) (
      callP Try.prog 13 #[(Value.pointer t3)] w25 (fun v18 w27 =>
        dI .i64 v18 fun x10 =>
        R (.returned (Value.bool (x10 == 4))) w27) (fun ch w28 => R (.panicked ch) w28)) (
      R (.returned (Value.bool false)) w25)) (fun ch w26 => R (.panicked ch) w26)
def stopcocklaw19_GateOrder.b2 (t3 : Option Addr) (t4p : Option Addr) (t4n : Nat) (t4c : Nat) (t8 : Int) (w : World) (R : Ending → World → Prop) (C2 : Option Addr → Option Addr → Nat → Nat → Int → World → Prop) : Prop :=
  cond (decide (t8 < ((t4n : Nat) : Int))) (
    callP Try.prog 11 #[(Value.pointer t3)] w (fun v6 w10 =>
      dT v6 fun vs2 =>
      optP (vs2[0]?) fun v7 =>
      dI .i64 v7 fun x3 =>
      optP (vs2[1]?) fun v8 =>
      dA v8 fun cs4 =>
      optP (vs2[2]?) fun v9 =>
      dI .i64 v9 fun x4 =>
      newP w10 #[(Value.int .i64 0), (Value.int .i64 0), (Value.int .i64 0), (Value.int .i64 0), (Value.slice none 0 0)] 29 fun b4 w12 =>
      chk (decide (cs4.size = 5)) (
        Wr w12 (⟨b4, 0, none⟩ : Addr) cs4.toList ∧ ∀ w13, w13 = w12.setCells (⟨b4, 0, none⟩ : Addr).block (⟨b4, 0, none⟩ : Addr).off cs4.toList →
        (cond (x4 != 0) (
            R (.returned (Value.bool false)) w13.drew) (
            ∃ (cs5 : Array Value), cs5.size = 5 ∧ CellsAt w13.drew (⟨b4, 0, none⟩ : Addr) cs5.toList ∧
            (chk (decide (0 ≤ t8)) (
                chk (decide (t8 < ((t4n : Nat) : Int))) (
                  optP t4p fun a3 =>
                  ∃ (cs6 : Array Value), cs6.size = 5 ∧ CellsAt w13.drew (a3.add (t8.toNat * 5)) cs6.toList ∧
                  (callP Try.prog 12 #[(Value.agg cs5), (Value.agg cs6)] w13.drew (fun v10 w14 =>
                      dB v10 fun b5 =>
                      cond (!b5) (
                        R (.returned (Value.bool false)) w14) (
                        stopcocklaw19_GateOrder.l3 t3 t4p t4n t4c t8 b4 0 cs5 t4p t4n t4c t8 (a3.add (t8.toNat * 5)) cs6 b5 (!b5) w14 R C2)) (fun ch w15 => R (.panicked ch) w15))))))))) (fun ch w11 => R (.panicked ch) w11)) (
    stopcocklaw19_GateOrder.k3 t3 w R)
def stopcocklaw19_GateOrder.l2 (t3 : Option Addr) (t4p : Option Addr) (t4n : Nat) (t4c : Nat) (t8 : Int) (w : World) (R : Ending → World → Prop) : Prop :=
  ∃ (I : Option Addr → Option Addr → Nat → Nat → Int → World → Prop) (m : Option Addr → Option Addr → Nat → Nat → Int → World → Nat), I t3 t4p t4n t4c t8 w ∧
  ∀ (t3 : Option Addr) (t4p : Option Addr) (t4n : Nat) (t4c : Nat) (t8 : Int) (w : World), I t3 t4p t4n t4c t8 w →
  stopcocklaw19_GateOrder.b2 t3 t4p t4n t4c t8 w R (fun t3' t4p' t4n' t4c' t8' w' => I t3' t4p' t4n' t4c' t8' w' ∧ m t3' t4p' t4n' t4c' t8' w' < m t3 t4p t4n t4c t8 w)
def stopcocklaw19_GateOrder.k1 (t3 : Option Addr) (t4p : Option Addr) (t4n : Nat) (t4c : Nat) (w : World) (R : Ending → World → Prop) : Prop :=
  stopcocklaw19_GateOrder.l2 t3 t4p t4n t4c 0 w R
def stopcocklaw19_GateOrder.b1 (t0p : Option Addr) (t0n : Nat) (t0c : Nat) (t3 : Option Addr) (t4p : Option Addr) (t4n : Nat) (t4c : Nat) (t5 : Int) (w : World) (R : Ending → World → Prop) (C1 : Option Addr → Nat → Nat → Option Addr → Option Addr → Nat → Nat → Int → World → Prop) : Prop :=
  cond (decide (t5 < ((t0n : Nat) : Int))) (
    cond (decide (t5 < 40)) (
      chk (decide (0 ≤ t5)) (
        chk (decide (t5 < ((t0n : Nat) : Int))) (
          optP t0p fun a1 =>
          ∃ (cs1 : Array Value), cs1.size = 5 ∧ CellsAt w (a1.add (t5.toNat * 5)) cs1.toList ∧
          (callP Try.prog 9 #[(Value.pointer t3), (Value.agg cs1)] w (fun v3 w6 =>
              dT v3 fun vs1 =>
              optP (vs1[0]?) fun v4 =>
              dI .i64 v4 fun x1 =>
              optP (vs1[1]?) fun v5 =>
              dI .i64 v5 fun x2 =>
              cond (x2 == 0) (
                chk (decide (0 ≤ t5)) (
                  chk (decide (t5 < ((t0n : Nat) : Int))) (
                    optP t0p fun a2 =>
                    ∃ (cs2 : Array Value), cs2.size = 5 ∧ CellsAt w6 (a2.add (t5.toNat * 5)) cs2.toList ∧
                    (optP (Instr.fill (fun i => some (i * 5, 5)) (madeCells #[(Value.int .i64 0), (Value.int .i64 0), (Value.int .i64 0), (Value.int .i64 0), (Value.slice none 0 0)] (1 * 5)) [(0, (Value.agg cs2))]) fun cs3 =>
                      newP w6 cs3 29 fun b3 w8 =>
                      appP w8 t4p t4n t4c 1 (CellsO w8 (some ⟨b3, 0, none⟩)) 29 5 56 #[(Value.int .i64 0), (Value.int .i64 0), (Value.int .i64 0), (Value.int .i64 0), (Value.slice none 0 0)] fun p2 c1 w9 =>
                      C1 t0p t0n t0c t3 p2 (t4n + 1) c1 (IntKind.i64.wrap (t5 + 1)) w9)))) (
                C1 t0p t0n t0c t3 t4p t4n t4c (IntKind.i64.wrap (t5 + 1)) w6)) (fun ch w7 => R (.panicked ch) w7))))) (
      stopcocklaw19_GateOrder.k1 t3 t4p t4n t4c w R)) (
    stopcocklaw19_GateOrder.k1 t3 t4p t4n t4c w R)
def stopcocklaw19_GateOrder.l1 (t0p : Option Addr) (t0n : Nat) (t0c : Nat) (t3 : Option Addr) (t4p : Option Addr) (t4n : Nat) (t4c : Nat) (t5 : Int) (w : World) (R : Ending → World → Prop) : Prop :=
  ∃ (I : Option Addr → Nat → Nat → Option Addr → Option Addr → Nat → Nat → Int → World → Prop) (m : Option Addr → Nat → Nat → Option Addr → Option Addr → Nat → Nat → Int → World → Nat), I t0p t0n t0c t3 t4p t4n t4c t5 w ∧
  ∀ (t0p : Option Addr) (t0n : Nat) (t0c : Nat) (t3 : Option Addr) (t4p : Option Addr) (t4n : Nat) (t4c : Nat) (t5 : Int) (w : World), I t0p t0n t0c t3 t4p t4n t4c t5 w →
  stopcocklaw19_GateOrder.b1 t0p t0n t0c t3 t4p t4n t4c t5 w R (fun t0p' t0n' t0c' t3' t4p' t4n' t4c' t5' w' => I t0p' t0n' t0c' t3' t4p' t4n' t4c' t5' w' ∧ m t0p' t0n' t0c' t3' t4p' t4n' t4c' t5' w' < m t0p t0n t0c t3 t4p t4n t4c t5 w)
def stopcocklaw19_GateOrder.main (a0p : Option Addr) (a0n : Nat) (a0c : Nat) (w : World) (R : Ending → World → Prop) : Prop :=
  callP Try.prog 7 #[] w (fun v1 w1 =>
    dP v1 fun p1 =>
    callP Try.prog 8 #[] w1 (fun v2 w3 =>
      dB v2 fun b1 =>
      cond (!b1) (
        R (.returned (Value.bool false)) w3) (
        cond (Option.isNone p1) (
          R (.returned (Value.bool false)) w3) (
          newP w3 #[] 29 fun b2 w5 =>
          stopcocklaw19_GateOrder.l1 a0p a0n a0c p1 (some ⟨b2, 0, none⟩) 0 0 0 w5 R))) (fun ch w4 => R (.panicked ch) w4)) (fun ch w2 => R (.panicked ch) w2)
abbrev stopcocklaw19_GateOrder.C (a0p : Option Addr) (a0n : Nat) (a0c : Nat) (w : World) (R : Ending → World → Prop) : Prop := Calls Try.prog 4 #[(Value.slice a0p a0n a0c)] w R
noncomputable def stopcocklaw19_GateOrder.code : Code := (Try.f4.body).getD .skip
noncomputable def stopcocklaw19_GateOrder.sk (R : Ending → World → Prop) : Sk := (.seq .leaf (.seq .leaf (.seq .leaf (.seq .leaf (.cut [(3, .ptr), (4, .slice)] (fun (t3 : Option Addr) (t4p : Option Addr) (t4n : Nat) (t4c : Nat) (w : World) => stopcocklaw19_GateOrder.k1 t3 t4p t4n t4c w R) (.seq .leaf (.block (.loop [(0, .slice), (3, .ptr), (4, .slice), (5, .int .i64)] (fun (t0p : Option Addr) (t0n : Nat) (t0c : Nat) (t3 : Option Addr) (t4p : Option Addr) (t4n : Nat) (t4c : Nat) (t5 : Int) (w : World) => stopcocklaw19_GateOrder.l1 t0p t0n t0c t3 t4p t4n t4c t5 w R) (fun (C1 : Option Addr → Nat → Nat → Option Addr → Option Addr → Nat → Nat → Int → World → Prop) => .leaf)))) (.cut [(3, .ptr)] (fun (t3 : Option Addr) (w : World) => stopcocklaw19_GateOrder.k3 t3 w R) (.seq .leaf (.block (.loop [(3, .ptr), (4, .slice), (8, .int .i64)] (fun (t3 : Option Addr) (t4p : Option Addr) (t4n : Nat) (t4c : Nat) (t8 : Int) (w : World) => stopcocklaw19_GateOrder.l2 t3 t4p t4n t4c t8 w R) (fun (C2 : Option Addr → Option Addr → Nat → Nat → Int → World → Prop) => (.seq .leaf (.seq (.block (.seq .leaf (.seq .leaf (.cut [(3, .ptr), (4, .slice), (8, .int .i64), (67, .agg), (68, .slice), (69, .int .i64), (70, .addr), (71, .agg), (72, .bool), (73, .bool)] (fun (t3 : Option Addr) (t4p : Option Addr) (t4n : Nat) (t4c : Nat) (t8 : Int) (t67 : Array Value) (t68p : Option Addr) (t68n : Nat) (t68c : Nat) (t69 : Int) (t70 : Addr) (t71 : Array Value) (t72 : Bool) (t73 : Bool) (w : World) => stopcocklaw19_GateOrder.k2 t3 t4p t4n t4c t8 t67 t68p t68n t68c t69 t70 t71 t72 t73 w R C2) (.seq .leaf (.block (.loop [(3, .ptr), (4, .slice), (8, .int .i64), (10, .blk), (12, .int .i64), (67, .agg), (68, .slice), (69, .int .i64), (70, .addr), (71, .agg), (72, .bool), (73, .bool)] (fun (t3 : Option Addr) (t4p : Option Addr) (t4n : Nat) (t4c : Nat) (t8 : Int) (t10 : Nat) (t12 : Int) (t67 : Array Value) (t68p : Option Addr) (t68n : Nat) (t68c : Nat) (t69 : Int) (t70 : Addr) (t71 : Array Value) (t72 : Bool) (t73 : Bool) (w : World) => stopcocklaw19_GateOrder.l3 t3 t4p t4n t4c t8 t10 t12 t67 t68p t68n t68c t69 t70 t71 t72 t73 w R C2) (fun (C3 : Option Addr → Option Addr → Nat → Nat → Int → Nat → Int → Array Value → Option Addr → Nat → Nat → Int → Addr → Array Value → Bool → Bool → World → Prop) => .leaf)))) .leaf)))) .leaf)))))) .leaf))))))
def stopcocklaw19_GateOrder.owed (R : Ending → World → Prop) : Prop :=
  (∀ (t0p : Option Addr) (t0n : Nat) (t0c : Nat) (t3 : Option Addr) (t4p : Option Addr) (t4n : Nat) (t4c : Nat) (t5 : Int) (w : World), stopcocklaw19_GateOrder.l1 t0p t0n t0c t3 t4p t4n t4c t5 w R → stopcocklaw19_GateOrder.l1 t0p t0n t0c t3 t4p t4n t4c t5 w R) ∧ (∀ (C1 : Option Addr → Nat → Nat → Option Addr → Option Addr → Nat → Nat → Int → World → Prop), True) ∧ (∀ (t3 : Option Addr) (t4p : Option Addr) (t4n : Nat) (t4c : Nat) (w : World), stopcocklaw19_GateOrder.k1 t3 t4p t4n t4c w R → stopcocklaw19_GateOrder.k1 t3 t4p t4n t4c w R) ∧ (∀ (t3 : Option Addr) (t4p : Option Addr) (t4n : Nat) (t4c : Nat) (t8 : Int) (w : World), stopcocklaw19_GateOrder.l2 t3 t4p t4n t4c t8 w R → stopcocklaw19_GateOrder.l2 t3 t4p t4n t4c t8 w R) ∧ (∀ (C2 : Option Addr → Option Addr → Nat → Nat → Int → World → Prop), (∀ (t3 : Option Addr) (t4p : Option Addr) (t4n : Nat) (t4c : Nat) (t8 : Int) (t10 : Nat) (t12 : Int) (t67 : Array Value) (t68p : Option Addr) (t68n : Nat) (t68c : Nat) (t69 : Int) (t70 : Addr) (t71 : Array Value) (t72 : Bool) (t73 : Bool) (w : World), stopcocklaw19_GateOrder.l3 t3 t4p t4n t4c t8 t10 t12 t67 t68p t68n t68c t69 t70 t71 t72 t73 w R C2 → stopcocklaw19_GateOrder.l3 t3 t4p t4n t4c t8 t10 t12 t67 t68p t68n t68c t69 t70 t71 t72 t73 w R C2) ∧ (∀ (C3 : Option Addr → Option Addr → Nat → Nat → Int → Nat → Int → Array Value → Option Addr → Nat → Nat → Int → Addr → Array Value → Bool → Bool → World → Prop), True) ∧ (∀ (t3 : Option Addr) (t4p : Option Addr) (t4n : Nat) (t4c : Nat) (t8 : Int) (t67 : Array Value) (t68p : Option Addr) (t68n : Nat) (t68c : Nat) (t69 : Int) (t70 : Addr) (t71 : Array Value) (t72 : Bool) (t73 : Bool) (w : World), stopcocklaw19_GateOrder.k2 t3 t4p t4n t4c t8 t67 t68p t68n t68c t69 t70 t71 t72 t73 w R C2 → stopcocklaw19_GateOrder.k2 t3 t4p t4n t4c t8 t67 t68p t68n t68c t69 t70 t71 t72 t73 w R C2) ∧ True) ∧ (∀ (t3 : Option Addr) (w : World), stopcocklaw19_GateOrder.k3 t3 w R → stopcocklaw19_GateOrder.k3 t3 w R) ∧ True
theorem stopcocklaw19_GateOrder.pays (R : Ending → World → Prop) : stopcocklaw19_GateOrder.owed R := ⟨(fun _ _ _ _ _ _ _ _ _ h => h), (fun _ => trivial), (fun _ _ _ _ _ h => h), (fun _ _ _ _ _ _ h => h), (fun _ => ⟨(fun _ _ _ _ _ _ _ _ _ _ _ _ _ _ _ _ _ h => h), (fun _ => trivial), (fun _ _ _ _ _ _ _ _ _ _ _ _ _ _ _ h => h), trivial⟩), (fun _ _ h => h), trivial⟩
set_option maxRecDepth 100000 in
theorem stopcocklaw19_GateOrder.ok {a0p : Option Addr} {a0n : Nat} {a0c : Nat} {w : World} {R : Ending → World → Prop} (h : stopcocklaw19_GateOrder.main a0p a0n a0c w R) : stopcocklaw19_GateOrder.C a0p a0n a0c w R :=
  ev_ok cxok (c := cx) Try.func4 (code := stopcocklaw19_GateOrder.code) (by kernel_rfl) [.tmp 2] (by kernel_rfl) 119 (by kernel_rfl) (stopcocklaw19_GateOrder.sk R) (args := [(Value.slice a0p a0n a0c)]) (Nat.le_of_ble_eq_true rfl) (by kernel_rfl) (o := stopcocklaw19_GateOrder.owed R) (by kernel_rfl) (stopcocklaw19_GateOrder.pays R) h

end Go.Proofs.Ytpbnjjjglbnnpaa.G

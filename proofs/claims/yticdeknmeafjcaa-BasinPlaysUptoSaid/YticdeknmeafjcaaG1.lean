/- Statements of functions, and that their calls do what they say. Printed by wip/tool/dec.py. Conditions: none. -/
import Derived.Test.YticdeknmeafjcaaG0
namespace Go.Proofs.Yticdeknmeafjcaa.G
open Go.Dec
set_option linter.unusedVariables false

/-! ### stopcock/stopcocklaw05.BasinPlays: function 5 -/
def stopcocklaw05_BasinPlays.k3 (t0 : Int) (t1p : Option Addr) (t1n : Nat) (t1c : Nat) (t5 : Option Addr) (t7 : Option Addr) (t8 : Int) (t10 : Int) (t11 : Int) (t64 : Int) (t65 : Bool) (w : World) (R : Ending → World → Prop) (C1 : Int → Option Addr → Nat → Nat → Option Addr → Option Addr → Int → World → Prop) : Prop :=
  cond (t10 != t11) (
    R (.returned (Value.bool false)) w.drew) (
    optP t7 fun d3 =>
    ∃ (p8 : Option Addr) (n6 : Nat) (c6 : Nat), w.drew.cell? (d3.add 1) = some (Value.slice p8 n6 c6) ∧
    (callP Try.prog 15 #[(Value.pointer t5)] w.drew (fun v21 w32 =>
        dI .i64 v21 fun x14 =>
        w32.cell? (d3.add 1) = some (Value.slice p8 n6 c6) ∧
        (cond (x14 != ((n6 : Nat) : Int)) (
            R (.returned (Value.bool false)) w32) (
            C1 t0 t1p t1n t1c t5 t7 (IntKind.i64.wrap (t8 + 1)) w32))) (fun ch w33 => R (.panicked ch) w33)))
def stopcocklaw05_BasinPlays.k2 (t0 : Int) (t1p : Option Addr) (t1n : Nat) (t1c : Nat) (t5 : Option Addr) (t7 : Option Addr) (t8 : Int) (t9 : Nat) (t10 : Int) (t11 : Int) (t64 : Int) (t65 : Bool) (t74 : Int) (t83 : Bool) (w : World) (R : Ending → World → Prop) (C1 : Int → Option Addr → Nat → Nat → Option Addr → Option Addr → Int → World → Prop) : Prop :=
  cond t83 (
    ∃ (p3 : Option Addr) (n1 : Nat) (c1 : Nat), w.cell? (⟨t9, 2, none⟩ : Addr) = some (Value.slice p3 n1 c1) ∧
    (callP Try.prog 10 #[(Value.pointer t5), (Value.slice p3 n1 c1)] w (fun v8 w13 =>
        dI .i64 v8 fun x4 =>
        ∃ (p4 : Option Addr) (n2 : Nat) (c2 : Nat), w13.cell? (⟨t9, 2, none⟩ : Addr) = some (Value.slice p4 n2 c2) ∧
        (callP Try.prog 18 #[(Value.pointer t7), (Value.slice p4 n2 c2)] w13 (fun v9 w15 =>
            dI .i64 v9 fun x5 =>
            stopcocklaw05_BasinPlays.k3 t0 t1p t1n t1c t5 t7 t8 x4 x5 t64 t65 w15 R C1) (fun ch w16 => R (.panicked ch) w16))) (fun ch w14 => R (.panicked ch) w14))) (
    cond (t74 == 3) (
      ∃ (x6 : Int), w.cell? (⟨t9, 1, none⟩ : Addr) = some (Value.int .i64 x6) ∧
      (callP Try.prog 14 #[(Value.pointer t5), (Value.int .i64 x6)] w (fun v10 w17 =>
          dT v10 fun vs2 =>
          optP (vs2[0]?) fun v11 =>
          dS v11 fun p5 n3 c3 =>
          optP (vs2[1]?) fun v12 =>
          dI .i64 v12 fun x7 =>
          ∃ (x8 : Int), w17.cell? (⟨t9, 1, none⟩ : Addr) = some (Value.int .i64 x8) ∧
          (callP Try.prog 19 #[(Value.pointer t7), (Value.int .i64 x8)] w17 (fun v13 w19 =>
              dT v13 fun vs3 =>
              optP (vs3[0]?) fun v14 =>
              dStr v14 fun s1 =>
              optP (vs3[1]?) fun v15 =>
              dI .i64 v15 fun x9 =>
              ∃ (ns1 : List Int), ns1.length = n3 ∧ CellsO w19 p5 (ns1.map (Value.int .u8)) ∧
              (cond (!((strOf ns1).toList == s1.toList)) (
                  R (.returned (Value.bool false)) w19) (
                  stopcocklaw05_BasinPlays.k3 t0 t1p t1n t1c t5 t7 t8 x7 x9 t64 t65 w19 R C1))) (fun ch w20 => R (.panicked ch) w20))) (fun ch w18 => R (.panicked ch) w18))) (
      cond (t74 == 4) (
        callP Try.prog 12 #[(Value.pointer t5)] w (fun v16 w21 =>
          dI .i64 v16 fun x10 =>
          callP Try.prog 20 #[(Value.pointer t7)] w21 (fun v17 w23 =>
            dI .i64 v17 fun x11 =>
            stopcocklaw05_BasinPlays.k3 t0 t1p t1n t1c t5 t7 t8 x10 x11 t64 t65 w23 R C1) (fun ch w24 => R (.panicked ch) w24)) (fun ch w22 => R (.panicked ch) w22)) (
        cond (t74 == 5) (
          ∃ (x12 : Int), w.cell? (⟨t9, 1, none⟩ : Addr) = some (Value.int .i64 x12) ∧
          (callP Try.prog 21 #[(Value.pointer t5), (Value.int .i64 x12)] w (fun v18 w25 =>
              dT v18 fun vs4 =>
              ∃ (x13 : Int), w25.cell? (⟨t9, 1, none⟩ : Addr) = some (Value.int .i64 x13) ∧
              (optP t7 fun d2 =>
                (w25.cell? (d2.add 2)).isSome = true ∧ w25.frozen? (d2.add 2) = false ∧ ∀ w27, w27 = w25.setCell (d2.add 2) (Value.int .i64 x13) →
                (stopcocklaw05_BasinPlays.k3 t0 t1p t1n t1c t5 t7 t8 t10 t11 t64 t65 w27 R C1))) (fun ch w26 => R (.panicked ch) w26))) (
          ∃ (p6 : Option Addr) (n4 : Nat) (c4 : Nat), w.cell? (⟨t9, 3, none⟩ : Addr) = some (Value.slice p6 n4 c4) ∧
          (callP Try.prog 13 #[(Value.pointer t5), (Value.slice p6 n4 c4)] w (fun v19 w28 =>
              dT v19 fun vs5 =>
              ∃ (p7 : Option Addr) (n5 : Nat) (c5 : Nat), w28.cell? (⟨t9, 3, none⟩ : Addr) = some (Value.slice p7 n5 c5) ∧
              (callP Try.prog 22 #[(Value.pointer t7), (Value.slice p7 n5 c5)] w28 (fun v20 w30 =>
                  dT v20 fun vs6 =>
                  stopcocklaw05_BasinPlays.k3 t0 t1p t1n t1c t5 t7 t8 t10 t11 t64 t65 w30 R C1) (fun ch w31 => R (.panicked ch) w31))) (fun ch w29 => R (.panicked ch) w29))))))
def stopcocklaw05_BasinPlays.b2 (t0 : Int) (t5 : Option Addr) (t7 : Option Addr) (t16 : Int) (w : World) (R : Ending → World → Prop) (C2 : Int → Option Addr → Option Addr → Int → World → Prop) : Prop :=
  cond (decide (t16 < t0)) (
    callP Try.prog 14 #[(Value.pointer t5), (Value.int .i64 t16)] w (fun v22 w34 =>
      dT v22 fun vs7 =>
      optP (vs7[0]?) fun v23 =>
      dS v23 fun p9 n7 c7 =>
      optP (vs7[1]?) fun v24 =>
      dI .i64 v24 fun x15 =>
      callP Try.prog 19 #[(Value.pointer t7), (Value.int .i64 t16)] w34 (fun v25 w36 =>
        dT v25 fun vs8 =>
        optP (vs8[0]?) fun v26 =>
        dStr v26 fun s2 =>
        optP (vs8[1]?) fun v27 =>
        dI .i64 v27 fun x16 =>
        cond (x15 != x16) (
          R (.returned (Value.bool false)) w36) (
          ∃ (ns2 : List Int), ns2.length = n7 ∧ CellsO w36 p9 (ns2.map (Value.int .u8)) ∧
          (cond (!((strOf ns2).toList == s2.toList)) (
              R (.returned (Value.bool false)) w36) (
              C2 t0 t5 t7 (IntKind.i64.wrap (t16 + 1)) w36)))) (fun ch w37 => R (.panicked ch) w37)) (fun ch w35 => R (.panicked ch) w35)) (
    R (.returned (Value.bool true)) w)
def stopcocklaw05_BasinPlays.l2 (t0 : Int) (t5 : Option Addr) (t7 : Option Addr) (t16 : Int) (w : World) (R : Ending → World → Prop) : Prop :=
  ∃ (I : Int → Option Addr → Option Addr → Int → World → Prop) (m : Int → Option Addr → Option Addr → Int → World → Nat), I t0 t5 t7 t16 w ∧
  ∀ (t0 : Int) (t5 : Option Addr) (t7 : Option Addr) (t16 : Int) (w : World), I t0 t5 t7 t16 w →
  stopcocklaw05_BasinPlays.b2 t0 t5 t7 t16 w R (fun t0' t5' t7' t16' w' => I t0' t5' t7' t16' w' ∧ m t0' t5' t7' t16' w' < m t0 t5 t7 t16 w)
def stopcocklaw05_BasinPlays.k4 (t0 : Int) (t5 : Option Addr) (t7 : Option Addr) (w : World) (R : Ending → World → Prop) : Prop :=
  stopcocklaw05_BasinPlays.l2 t0 t5 t7 0 w R
def stopcocklaw05_BasinPlays.b1 (t0 : Int) (t1p : Option Addr) (t1n : Nat) (t1c : Nat) (t5 : Option Addr) (t7 : Option Addr) (t8 : Int) (w : World) (R : Ending → World → Prop) (C1 : Int → Option Addr → Nat → Nat → Option Addr → Option Addr → Int → World → Prop) : Prop :=
  cond (decide (t8 < ((t1n : Nat) : Int))) (
    cond (decide (t8 < 60)) (
      chk (decide (0 ≤ t8)) (
        chk (decide (t8 < ((t1n : Nat) : Int))) (
          optP t1p fun d1 =>
          ∃ (cs1 : Array Value), cs1.size = 4 ∧ CellsAt w (d1.add (t8.toNat * 4)) cs1.toList ∧
          (newP w #[(Value.int .i64 0), (Value.int .i64 0), (Value.slice none 0 0), (Value.slice none 0 0)] 46 fun b3 w11 =>
            chk (decide (cs1.size = 4)) (
              Wr w11 (⟨b3, 0, none⟩ : Addr) cs1.toList ∧ ∀ w12, w12 = w11.setCells (⟨b3, 0, none⟩ : Addr).block (⟨b3, 0, none⟩ : Addr).off cs1.toList →
              (∃ (x3 : Int), w12.cell? (⟨b3, 0, none⟩ : Addr) = some (Value.int .i64 x3) ∧
                (cond (x3 == 0) (
                    stopcocklaw05_BasinPlays.k2 t0 t1p t1n t1c t5 t7 t8 b3 0 0 t8 (decide (t8 < 60)) x3 (x3 == 0) w12 R C1) (
                    cond (x3 == 1) (
                      stopcocklaw05_BasinPlays.k2 t0 t1p t1n t1c t5 t7 t8 b3 0 0 t8 (decide (t8 < 60)) x3 (x3 == 1) w12 R C1) (
                      stopcocklaw05_BasinPlays.k2 t0 t1p t1n t1c t5 t7 t8 b3 0 0 t8 (decide (t8 < 60)) x3 (x3 == 2) w12 R C1))))))))) (
      stopcocklaw05_BasinPlays.k4 t0 t5 t7 w R)) (
    stopcocklaw05_BasinPlays.k4 t0 t5 t7 w R)
def stopcocklaw05_BasinPlays.l1 (t0 : Int) (t1p : Option Addr) (t1n : Nat) (t1c : Nat) (t5 : Option Addr) (t7 : Option Addr) (t8 : Int) (w : World) (R : Ending → World → Prop) : Prop :=
  ∃ (I : Int → Option Addr → Nat → Nat → Option Addr → Option Addr → Int → World → Prop) (m : Int → Option Addr → Nat → Nat → Option Addr → Option Addr → Int → World → Nat), I t0 t1p t1n t1c t5 t7 t8 w ∧
  ∀ (t0 : Int) (t1p : Option Addr) (t1n : Nat) (t1c : Nat) (t5 : Option Addr) (t7 : Option Addr) (t8 : Int) (w : World), I t0 t1p t1n t1c t5 t7 t8 w →
  stopcocklaw05_BasinPlays.b1 t0 t1p t1n t1c t5 t7 t8 w R (fun t0' t1p' t1n' t1c' t5' t7' t8' w' => I t0' t1p' t1n' t1c' t5' t7' t8' w' ∧ m t0' t1p' t1n' t1c' t5' t7' t8' w' < m t0 t1p t1n t1c t5 t7 t8 w)
def stopcocklaw05_BasinPlays.k1 (t0 : Int) (t1p : Option Addr) (t1n : Nat) (t1c : Nat) (t5 : Option Addr) (t6 : Int) (t31 : Bool) (w : World) (R : Ending → World → Prop) : Prop :=
  cond t31 (
    callP Try.prog 9 #[] w (fun v4 w3 =>
      dB v4 fun b1 =>
      cond b1 (
        cond (t6 == 1) (
          R (.returned (Value.bool (Option.isNone t5))) w3) (
          R (.returned (Value.bool false)) w3)) (
        R (.returned (Value.bool false)) w3)) (fun ch w4 => R (.panicked ch) w4)) (
    callP Try.prog 9 #[] w (fun v5 w5 =>
      dB v5 fun b2 =>
      cond (!b2) (
        R (.returned (Value.bool false)) w5) (
        cond (t6 != 0) (
          R (.returned (Value.bool false)) w5) (
          cond (Option.isNone t5) (
            R (.returned (Value.bool false)) w5) (
            callP Try.prog 16 #[(Value.pointer t5)] w5 (fun v6 w7 =>
              dI .i64 v6 fun x2 =>
              cond (x2 != t0) (
                R (.returned (Value.bool false)) w7) (
                callP Try.prog 17 #[(Value.int .i64 t0)] w7 (fun v7 w9 =>
                  dP v7 fun p2 =>
                  stopcocklaw05_BasinPlays.l1 t0 t1p t1n t1c t5 p2 0 w9 R) (fun ch w10 => R (.panicked ch) w10))) (fun ch w8 => R (.panicked ch) w8))))) (fun ch w6 => R (.panicked ch) w6))
def stopcocklaw05_BasinPlays.main (a0 : Int) (a1p : Option Addr) (a1n : Nat) (a1c : Nat) (w : World) (R : Ending → World → Prop) : Prop :=
  callP Try.prog 8 #[(Value.int .i64 a0)] w (fun v1 w1 =>
    dT v1 fun vs1 =>
    optP (vs1[0]?) fun v2 =>
    dP v2 fun p1 =>
    optP (vs1[1]?) fun v3 =>
    dI .i64 v3 fun x1 =>
    cond (decide (a0 < 1)) (
      stopcocklaw05_BasinPlays.k1 a0 a1p a1n a1c p1 x1 true w1 R) (
      stopcocklaw05_BasinPlays.k1 a0 a1p a1n a1c p1 x1 (decide (a0 > 424)) w1 R)) (fun ch w2 => R (.panicked ch) w2)
abbrev stopcocklaw05_BasinPlays.C (a0 : Int) (a1p : Option Addr) (a1n : Nat) (a1c : Nat) (w : World) (R : Ending → World → Prop) : Prop := Calls Try.prog 5 #[(Value.int .i64 a0), (Value.slice a1p a1n a1c)] w R
noncomputable def stopcocklaw05_BasinPlays.code : Code := (Try.f5.body).getD .skip
noncomputable def stopcocklaw05_BasinPlays.sk (R : Ending → World → Prop) : Sk := (.seq .leaf (.seq .leaf (.seq (.cut [(0, .int .i64), (1, .slice), (5, .ptr), (6, .int .i64), (31, .bool)] (fun (t0 : Int) (t1p : Option Addr) (t1n : Nat) (t1c : Nat) (t5 : Option Addr) (t6 : Int) (t31 : Bool) (w : World) => stopcocklaw05_BasinPlays.k1 t0 t1p t1n t1c t5 t6 t31 w R) .leaf .leaf) (.seq .leaf (.seq .leaf (.cut [(0, .int .i64), (5, .ptr), (7, .ptr)] (fun (t0 : Int) (t5 : Option Addr) (t7 : Option Addr) (w : World) => stopcocklaw05_BasinPlays.k4 t0 t5 t7 w R) (.seq .leaf (.block (.loop [(0, .int .i64), (1, .slice), (5, .ptr), (7, .ptr), (8, .int .i64)] (fun (t0 : Int) (t1p : Option Addr) (t1n : Nat) (t1c : Nat) (t5 : Option Addr) (t7 : Option Addr) (t8 : Int) (w : World) => stopcocklaw05_BasinPlays.l1 t0 t1p t1n t1c t5 t7 t8 w R) (fun (C1 : Int → Option Addr → Nat → Nat → Option Addr → Option Addr → Int → World → Prop) => (.seq .leaf (.seq (.block (.seq .leaf (.seq .leaf (.cut [(0, .int .i64), (1, .slice), (5, .ptr), (7, .ptr), (8, .int .i64), (10, .int .i64), (11, .int .i64), (64, .int .i64), (65, .bool)] (fun (t0 : Int) (t1p : Option Addr) (t1n : Nat) (t1c : Nat) (t5 : Option Addr) (t7 : Option Addr) (t8 : Int) (t10 : Int) (t11 : Int) (t64 : Int) (t65 : Bool) (w : World) => stopcocklaw05_BasinPlays.k3 t0 t1p t1n t1c t5 t7 t8 t10 t11 t64 t65 w R C1) (.seq .leaf (.block (.cut [(0, .int .i64), (1, .slice), (5, .ptr), (7, .ptr), (8, .int .i64), (9, .blk), (10, .int .i64), (11, .int .i64), (64, .int .i64), (65, .bool), (74, .int .i64), (83, .bool)] (fun (t0 : Int) (t1p : Option Addr) (t1n : Nat) (t1c : Nat) (t5 : Option Addr) (t7 : Option Addr) (t8 : Int) (t9 : Nat) (t10 : Int) (t11 : Int) (t64 : Int) (t65 : Bool) (t74 : Int) (t83 : Bool) (w : World) => stopcocklaw05_BasinPlays.k2 t0 t1p t1n t1c t5 t7 t8 t9 t10 t11 t64 t65 t74 t83 w R C1) .leaf .leaf))) .leaf)))) .leaf)))))) (.seq (.seq .leaf (.block (.loop [(0, .int .i64), (5, .ptr), (7, .ptr), (16, .int .i64)] (fun (t0 : Int) (t5 : Option Addr) (t7 : Option Addr) (t16 : Int) (w : World) => stopcocklaw05_BasinPlays.l2 t0 t5 t7 t16 w R) (fun (C2 : Int → Option Addr → Option Addr → Int → World → Prop) => .leaf)))) .leaf)))))))
def stopcocklaw05_BasinPlays.owed (R : Ending → World → Prop) : Prop :=
  (∀ (t0 : Int) (t1p : Option Addr) (t1n : Nat) (t1c : Nat) (t5 : Option Addr) (t6 : Int) (t31 : Bool) (w : World), stopcocklaw05_BasinPlays.k1 t0 t1p t1n t1c t5 t6 t31 w R → stopcocklaw05_BasinPlays.k1 t0 t1p t1n t1c t5 t6 t31 w R) ∧ (∀ (t0 : Int) (t1p : Option Addr) (t1n : Nat) (t1c : Nat) (t5 : Option Addr) (t7 : Option Addr) (t8 : Int) (w : World), stopcocklaw05_BasinPlays.l1 t0 t1p t1n t1c t5 t7 t8 w R → stopcocklaw05_BasinPlays.l1 t0 t1p t1n t1c t5 t7 t8 w R) ∧ (∀ (C1 : Int → Option Addr → Nat → Nat → Option Addr → Option Addr → Int → World → Prop), (∀ (t0 : Int) (t1p : Option Addr) (t1n : Nat) (t1c : Nat) (t5 : Option Addr) (t7 : Option Addr) (t8 : Int) (t9 : Nat) (t10 : Int) (t11 : Int) (t64 : Int) (t65 : Bool) (t74 : Int) (t83 : Bool) (w : World), stopcocklaw05_BasinPlays.k2 t0 t1p t1n t1c t5 t7 t8 t9 t10 t11 t64 t65 t74 t83 w R C1 → stopcocklaw05_BasinPlays.k2 t0 t1p t1n t1c t5 t7 t8 t9 t10 t11 t64 t65 t74 t83 w R C1) ∧ (∀ (t0 : Int) (t1p : Option Addr) (t1n : Nat) (t1c : Nat) (t5 : Option Addr) (t7 : Option Addr) (t8 : Int) (t10 : Int) (t11 : Int) (t64 : Int) (t65 : Bool) (w : World), stopcocklaw05_BasinPlays.k3 t0 t1p t1n t1c t5 t7 t8 t10 t11 t64 t65 w R C1 → stopcocklaw05_BasinPlays.k3 t0 t1p t1n t1c t5 t7 t8 t10 t11 t64 t65 w R C1) ∧ True) ∧ (∀ (t0 : Int) (t5 : Option Addr) (t7 : Option Addr) (w : World), stopcocklaw05_BasinPlays.k4 t0 t5 t7 w R → stopcocklaw05_BasinPlays.k4 t0 t5 t7 w R) ∧ (∀ (t0 : Int) (t5 : Option Addr) (t7 : Option Addr) (t16 : Int) (w : World), stopcocklaw05_BasinPlays.l2 t0 t5 t7 t16 w R → stopcocklaw05_BasinPlays.l2 t0 t5 t7 t16 w R) ∧ (∀ (C2 : Int → Option Addr → Option Addr → Int → World → Prop), True) ∧ True
theorem stopcocklaw05_BasinPlays.pays (R : Ending → World → Prop) : stopcocklaw05_BasinPlays.owed R := ⟨(fun _ _ _ _ _ _ _ _ h => h), (fun _ _ _ _ _ _ _ _ h => h), (fun _ => ⟨(fun _ _ _ _ _ _ _ _ _ _ _ _ _ _ _ h => h), (fun _ _ _ _ _ _ _ _ _ _ _ _ h => h), trivial⟩), (fun _ _ _ _ h => h), (fun _ _ _ _ _ h => h), (fun _ => trivial), trivial⟩
set_option maxRecDepth 100000 in
theorem stopcocklaw05_BasinPlays.ok {a0 : Int} {a1p : Option Addr} {a1n : Nat} {a1c : Nat} {w : World} {R : Ending → World → Prop} (h : stopcocklaw05_BasinPlays.main a0 a1p a1n a1c w R) : stopcocklaw05_BasinPlays.C a0 a1p a1n a1c w R :=
  ev_ok cxok (c := cx) Try.func5 (code := stopcocklaw05_BasinPlays.code) (by kernel_rfl) [.tmp 4] (by kernel_rfl) 173 (by kernel_rfl) (stopcocklaw05_BasinPlays.sk R) (args := [(Value.int .i64 a0), (Value.slice a1p a1n a1c)]) (Nat.le_of_ble_eq_true rfl) (by kernel_rfl) (o := stopcocklaw05_BasinPlays.owed R) (by kernel_rfl) (stopcocklaw05_BasinPlays.pays R) h

/-! ### stopcock/basin.New: function 8 -/
def basin_New.main (a0 : Int) (w : World) (R : Ending → World → Prop) : Prop :=
  cond (decide (a0 < 1)) (
    R (.returned (Value.tuple #[(Value.pointer none), (Value.int .i64 1)])) w) (
    cond (decide (a0 > 424)) (
      R (.returned (Value.tuple #[(Value.pointer none), (Value.int .i64 1)])) w) (
      (chk (decide (0 ≤ a0)) (
          chk (decide (a0 ≤ a0)) (
            chk (decide ((64 : Int) * a0 ≤ 281474976710656 ∧ a0 ≤ 9223372036854775807)) (
              newP w.drew (madeCells (List.replicate 64 (Value.int .u8 0)).toArray (a0.toNat * 64)) 66 fun b1 w1 =>
              chk (decide (0 ≤ a0)) (
                chk (decide (a0 ≤ a0)) (
                  chk (decide ((64 : Int) * a0 ≤ 281474976710656 ∧ a0 ≤ 9223372036854775807)) (
                    newP w1 (madeCells (List.replicate 64 (Value.int .u8 0)).toArray (a0.toNat * 64)) 66 fun b2 w2 =>
                    newP w2 #[(Value.slice (some ⟨b1, 0, none⟩) a0.toNat a0.toNat), (Value.slice (some ⟨b2, 0, none⟩) a0.toNat a0.toNat), (Value.slice none 0 0), (Value.int .i64 (-1)), (Value.bool false)] 62 fun b3 w3 =>
                    R (.returned (Value.tuple #[(Value.pointer (some (⟨b3, 0, none⟩ : Addr))), (Value.int .i64 0)])) w3))))))) ∧
      (chk (decide (0 ≤ a0)) (
          chk (decide (a0 ≤ a0)) (
            chk (decide ((64 : Int) * a0 ≤ 281474976710656 ∧ a0 ≤ 9223372036854775807)) (
              newP w.drew (madeCells (List.replicate 64 (Value.int .u8 0)).toArray (a0.toNat * 64)) 66 fun b4 w4 =>
              chk (decide (0 ≤ a0)) (
                chk (decide (a0 ≤ a0)) (
                  chk (decide ((64 : Int) * a0 ≤ 281474976710656 ∧ a0 ≤ 9223372036854775807)) (
                    newP w4 (madeCells (List.replicate 64 (Value.int .u8 0)).toArray (a0.toNat * 64)) 66 fun b5 w5 =>
                    newP w5 #[(Value.slice (some ⟨b5, 0, none⟩) a0.toNat a0.toNat), (Value.slice (some ⟨b4, 0, none⟩) a0.toNat a0.toNat), (Value.slice none 0 0), (Value.int .i64 (-1)), (Value.bool false)] 62 fun b6 w6 =>
                    R (.returned (Value.tuple #[(Value.pointer (some (⟨b6, 0, none⟩ : Addr))), (Value.int .i64 0)])) w6)))))))))
abbrev basin_New.C (a0 : Int) (w : World) (R : Ending → World → Prop) : Prop := Calls Try.prog 8 #[(Value.int .i64 a0)] w R
noncomputable def basin_New.code : Code := (Try.f8.body).getD .skip
noncomputable def basin_New.sk (R : Ending → World → Prop) : Sk := .leaf
def basin_New.owed (R : Ending → World → Prop) : Prop :=
  True
theorem basin_New.pays (R : Ending → World → Prop) : basin_New.owed R := trivial
set_option maxRecDepth 100000 in
theorem basin_New.ok {a0 : Int} {w : World} {R : Ending → World → Prop} (h : basin_New.main a0 w R) : basin_New.C a0 w R :=
  ev_ok cxok (c := cx) Try.func8 (code := basin_New.code) (by kernel_rfl) [.tmp 2, .tmp 3] (by kernel_rfl) 16 (by kernel_rfl) (basin_New.sk R) (args := [(Value.int .i64 a0)]) (Nat.le_of_ble_eq_true rfl) (by kernel_rfl) (o := basin_New.owed R) (by kernel_rfl) (basin_New.pays R) h

/-! ### stopcock/stopcocklaw05.awake: function 9 -/
def stopcocklaw05_awake.main (w : World) (R : Ending → World → Prop) : Prop :=
  callP Try.prog 8 #[(Value.int .i64 3)] w (fun v1 w1 =>
    dT v1 fun vs1 =>
    optP (vs1[0]?) fun v2 =>
    dP v2 fun p1 =>
    optP (vs1[1]?) fun v3 =>
    dI .i64 v3 fun x1 =>
    cond (x1 != 0) (
      R (.returned (Value.bool false)) w1) (
      cond (Option.isNone p1) (
        R (.returned (Value.bool false)) w1) (
        newP w1 (madeCells #[(Value.int .u8 0)] (64 * 1)) 5 fun b1 w3 =>
        (w3.cell? (⟨b1, 0, none⟩ : Addr)).isSome = true ∧ w3.frozen? (⟨b1, 0, none⟩ : Addr) = false ∧ ∀ w4, w4 = w3.setCell (⟨b1, 0, none⟩ : Addr) (Value.int .u8 7) →
        (newP w4 #[(Value.int .i64 1), (Value.slice (some ⟨b1, 0, none⟩) 64 64)] 32 fun b2 w5 =>
          callP Try.prog 10 #[(Value.pointer p1), (Value.slice (some ⟨b2, 0, none⟩) 1 1)] w5 (fun v4 w6 =>
            dI .i64 v4 fun x2 =>
            callP Try.prog 14 #[(Value.pointer p1), (Value.int .i64 1)] w6 (fun v5 w8 =>
              dT v5 fun vs2 =>
              optP (vs2[0]?) fun v6 =>
              dS v6 fun p2 n1 c1 =>
              optP (vs2[1]?) fun v7 =>
              dI .i64 v7 fun x3 =>
              cond (x2 == 0) (
                cond (x3 == 0) (
                  cond (((n1 : Nat) : Int) == 64) (
                    chk (decide (0 < ((n1 : Nat) : Int))) (
                      optP p2 fun d1 =>
                      ∃ (x4 : Int), w8.cell? d1 = some (Value.int .u8 x4) ∧
                      (cond (x4 == 7) (
                          callP Try.prog 15 #[(Value.pointer p1)] w8 (fun v8 w10 =>
                          dI .i64 v8 fun x5 =>
                          cond (x5 == 1) (
                          callP Try.prog 16 #[(Value.pointer p1)] w10 (fun v9 w12 =>
                          dI .i64 v9 fun x6 =>
                          cond (x6 == 3) (
                          callP Try.prog 12 #[(Value.pointer p1)] w12 (fun v10 w14 =>
                          dI .i64 v10 fun x7 =>
                          cond (x7 == 0) (
                          callP Try.prog 15 #[(Value.pointer p1)] w14 (fun v11 w16 =>
                          dI .i64 v11 fun x8 =>
                          R (.returned (Value.bool (x8 == 0))) w16) (fun ch w17 => R (.panicked ch) w17)) (
                          R (.returned (Value.bool false)) w14)) (fun ch w15 => R (.panicked ch) w15)) (
                          R (.returned (Value.bool false)) w12)) (fun ch w13 => R (.panicked ch) w13)) (
                          R (.returned (Value.bool false)) w10)) (fun ch w11 => R (.panicked ch) w11)) (
                          R (.returned (Value.bool false)) w8)))) (
                    R (.returned (Value.bool false)) w8)) (
                  R (.returned (Value.bool false)) w8)) (
                R (.returned (Value.bool false)) w8)) (fun ch w9 => R (.panicked ch) w9)) (fun ch w7 => R (.panicked ch) w7))))) (fun ch w2 => R (.panicked ch) w2)
abbrev stopcocklaw05_awake.C (w : World) (R : Ending → World → Prop) : Prop := Calls Try.prog 9 #[] w R
noncomputable def stopcocklaw05_awake.code : Code := (Try.f9.body).getD .skip
noncomputable def stopcocklaw05_awake.sk (R : Ending → World → Prop) : Sk := .leaf
def stopcocklaw05_awake.owed (R : Ending → World → Prop) : Prop :=
  True
theorem stopcocklaw05_awake.pays (R : Ending → World → Prop) : stopcocklaw05_awake.owed R := trivial
set_option maxRecDepth 100000 in
theorem stopcocklaw05_awake.ok {w : World} {R : Ending → World → Prop} (h : stopcocklaw05_awake.main  w R) : stopcocklaw05_awake.C  w R :=
  ev_ok cxok (c := cx) Try.func9 (code := stopcocklaw05_awake.code) (by kernel_rfl) [.tmp 0] (by kernel_rfl) 67 (by kernel_rfl) (stopcocklaw05_awake.sk R) (args := []) (Nat.le_of_ble_eq_true rfl) (by kernel_rfl) (o := stopcocklaw05_awake.owed R) (by kernel_rfl) (stopcocklaw05_awake.pays R) h

/-! ### (*stopcock/basin.Basin).Put: function 10 -/
def basin_Basin_Put.b1 (t2 : Nat) (t18p : Option Addr) (t18n : Nat) (t18c : Nat) (t19 : Int) (t20 : Int) (w : World) (R : Ending → World → Prop) (C1 : Nat → Option Addr → Nat → Nat → Int → Int → World → Prop) : Prop :=
  cond (decide (t20 < t19)) (
    chk (decide (0 ≤ t20)) (
      chk (decide (t20 < ((t18n : Nat) : Int))) (
        optP t18p fun d1 =>
        ∃ (cs1 : Array Value), cs1.size = 2 ∧ CellsAt w (d1.add (t20.toNat * 2)) cs1.toList ∧
        (newP w #[(Value.int .i64 0), (Value.slice none 0 0)] 32 fun b4 w8 =>
          chk (decide (cs1.size = 2)) (
            Wr w8 (⟨b4, 0, none⟩ : Addr) cs1.toList ∧ ∀ w9, w9 = w8.setCells (⟨b4, 0, none⟩ : Addr).block (⟨b4, 0, none⟩ : Addr).off cs1.toList →
            (∃ (p2 : Option Addr), w9.cell? (⟨t2, 0, none⟩ : Addr) = some (Value.pointer p2) ∧
              (callP Try.prog 27 #[(Value.pointer p2)] w9 (fun v4 w10 =>
                  dB v4 fun b5 =>
                  cond b5 (
                    R (.returned (Value.int .i64 10)) w10) (
                    ∃ (p3 : Option Addr), w10.drew.cell? (⟨t2, 0, none⟩ : Addr) = some (Value.pointer p3) ∧
                    (optP p3 fun d2 =>
                      ∃ (p4 : Option Addr) (n1 : Nat) (c1 : Nat), w10.drew.cell? (d2.add 1) = some (Value.slice p4 n1 c1) ∧
                      (∃ (x2 : Int), w10.drew.cell? (⟨b4, 0, none⟩ : Addr) = some (Value.int .i64 x2) ∧
                        (∃ (p5 : Option Addr) (n2 : Nat) (c2 : Nat), w10.drew.cell? (⟨b4, 1, none⟩ : Addr) = some (Value.slice p5 n2 c2) ∧
                          (chk (decide (64 ≤ n2)) (
                          optP p5 fun d3 =>
                          ∃ (cs2 : Array Value), cs2.size = 64 ∧ CellsAt w10.drew d3 cs2.toList ∧
                          (chk (decide (0 ≤ x2)) (
                          chk (decide (x2 < ((n1 : Nat) : Int))) (
                          optP p4 fun d4 =>
                          chk (decide (cs2.size = 64)) (
                          Wr w10.drew (d4.add (x2.toNat * 64)) cs2.toList ∧ ∀ w12, w12 = w10.drew.setCells (d4.add (x2.toNat * 64)).block (d4.add (x2.toNat * 64)).off cs2.toList →
                          (∃ (p6 : Option Addr), w12.drew.cell? (⟨t2, 0, none⟩ : Addr) = some (Value.pointer p6) ∧
                          (∃ (p7 : Option Addr), w12.drew.cell? (⟨t2, 0, none⟩ : Addr) = some (Value.pointer p7) ∧
                          (optP p7 fun d5 =>
                          ∃ (p8 : Option Addr) (n3 : Nat) (c3 : Nat), w12.drew.cell? (d5.add 2) = some (Value.slice p8 n3 c3) ∧
                          (∃ (x3 : Int), w12.drew.cell? (⟨b4, 0, none⟩ : Addr) = some (Value.int .i64 x3) ∧
                          (∃ (p9 : Option Addr) (n4 : Nat) (c4 : Nat), w12.drew.cell? (⟨b4, 1, none⟩ : Addr) = some (Value.slice p9 n4 c4) ∧
                          (chk (decide (64 ≤ n4)) (
                          optP p9 fun d6 =>
                          ∃ (cs3 : Array Value), cs3.size = 64 ∧ CellsAt w12.drew d6 cs3.toList ∧
                          (optP (Instr.fill (fun i => [(0, 1), (1, 64)].toArray[i]?) #[(Value.int .i64 0), (Value.int .u8 0), (Value.int .u8 0), (Value.int .u8 0), (Value.int .u8 0), (Value.int .u8 0), (Value.int .u8 0), (Value.int .u8 0), (Value.int .u8 0), (Value.int .u8 0), (Value.int .u8 0), (Value.int .u8 0), (Value.int .u8 0), (Value.int .u8 0), (Value.int .u8 0), (Value.int .u8 0), (Value.int .u8 0), (Value.int .u8 0), (Value.int .u8 0), (Value.int .u8 0), (Value.int .u8 0), (Value.int .u8 0), (Value.int .u8 0), (Value.int .u8 0), (Value.int .u8 0), (Value.int .u8 0), (Value.int .u8 0), (Value.int .u8 0), (Value.int .u8 0), (Value.int .u8 0), (Value.int .u8 0), (Value.int .u8 0), (Value.int .u8 0), (Value.int .u8 0), (Value.int .u8 0), (Value.int .u8 0), (Value.int .u8 0), (Value.int .u8 0), (Value.int .u8 0), (Value.int .u8 0), (Value.int .u8 0), (Value.int .u8 0), (Value.int .u8 0), (Value.int .u8 0), (Value.int .u8 0), (Value.int .u8 0), (Value.int .u8 0), (Value.int .u8 0), (Value.int .u8 0), (Value.int .u8 0), (Value.int .u8 0), (Value.int .u8 0), (Value.int .u8 0), (Value.int .u8 0), (Value.int .u8 0), (Value.int .u8 0), (Value.int .u8 0), (Value.int .u8 0), (Value.int .u8 0), (Value.int .u8 0), (Value.int .u8 0), (Value.int .u8 0), (Value.int .u8 0), (Value.int .u8 0), (Value.int .u8 0)] [(0, (Value.int .i64 x3)), (1, (Value.agg cs3))]) fun cs4 =>
                          optP (Instr.fill (fun i => some (i * 65, 65)) (madeCells #[(Value.int .i64 0), (Value.int .u8 0), (Value.int .u8 0), (Value.int .u8 0), (Value.int .u8 0), (Value.int .u8 0), (Value.int .u8 0), (Value.int .u8 0), (Value.int .u8 0), (Value.int .u8 0), (Value.int .u8 0), (Value.int .u8 0), (Value.int .u8 0), (Value.int .u8 0), (Value.int .u8 0), (Value.int .u8 0), (Value.int .u8 0), (Value.int .u8 0), (Value.int .u8 0), (Value.int .u8 0), (Value.int .u8 0), (Value.int .u8 0), (Value.int .u8 0), (Value.int .u8 0), (Value.int .u8 0), (Value.int .u8 0), (Value.int .u8 0), (Value.int .u8 0), (Value.int .u8 0), (Value.int .u8 0), (Value.int .u8 0), (Value.int .u8 0), (Value.int .u8 0), (Value.int .u8 0), (Value.int .u8 0), (Value.int .u8 0), (Value.int .u8 0), (Value.int .u8 0), (Value.int .u8 0), (Value.int .u8 0), (Value.int .u8 0), (Value.int .u8 0), (Value.int .u8 0), (Value.int .u8 0), (Value.int .u8 0), (Value.int .u8 0), (Value.int .u8 0), (Value.int .u8 0), (Value.int .u8 0), (Value.int .u8 0), (Value.int .u8 0), (Value.int .u8 0), (Value.int .u8 0), (Value.int .u8 0), (Value.int .u8 0), (Value.int .u8 0), (Value.int .u8 0), (Value.int .u8 0), (Value.int .u8 0), (Value.int .u8 0), (Value.int .u8 0), (Value.int .u8 0), (Value.int .u8 0), (Value.int .u8 0), (Value.int .u8 0)] (1 * 65)) [(0, (Value.agg cs4))]) fun cs5 =>
                          newP w12.drew cs5 68 fun b6 w13 =>
                          w13.cell? (d5.add 2) = some (Value.slice p8 n3 c3) ∧
                          (w13.cell? (⟨t2, 0, none⟩ : Addr) = some (Value.pointer p7) ∧
                          (w13.cell? (⟨t2, 0, none⟩ : Addr) = some (Value.pointer p6) ∧
                          (appP w13 p8 n3 c3 1 (CellsO w13 (some ⟨b6, 0, none⟩)) 68 65 72 #[(Value.int .i64 0), (Value.int .u8 0), (Value.int .u8 0), (Value.int .u8 0), (Value.int .u8 0), (Value.int .u8 0), (Value.int .u8 0), (Value.int .u8 0), (Value.int .u8 0), (Value.int .u8 0), (Value.int .u8 0), (Value.int .u8 0), (Value.int .u8 0), (Value.int .u8 0), (Value.int .u8 0), (Value.int .u8 0), (Value.int .u8 0), (Value.int .u8 0), (Value.int .u8 0), (Value.int .u8 0), (Value.int .u8 0), (Value.int .u8 0), (Value.int .u8 0), (Value.int .u8 0), (Value.int .u8 0), (Value.int .u8 0), (Value.int .u8 0), (Value.int .u8 0), (Value.int .u8 0), (Value.int .u8 0), (Value.int .u8 0), (Value.int .u8 0), (Value.int .u8 0), (Value.int .u8 0), (Value.int .u8 0), (Value.int .u8 0), (Value.int .u8 0), (Value.int .u8 0), (Value.int .u8 0), (Value.int .u8 0), (Value.int .u8 0), (Value.int .u8 0), (Value.int .u8 0), (Value.int .u8 0), (Value.int .u8 0), (Value.int .u8 0), (Value.int .u8 0), (Value.int .u8 0), (Value.int .u8 0), (Value.int .u8 0), (Value.int .u8 0), (Value.int .u8 0), (Value.int .u8 0), (Value.int .u8 0), (Value.int .u8 0), (Value.int .u8 0), (Value.int .u8 0), (Value.int .u8 0), (Value.int .u8 0), (Value.int .u8 0), (Value.int .u8 0), (Value.int .u8 0), (Value.int .u8 0), (Value.int .u8 0), (Value.int .u8 0)] fun p10 c5 w14 =>
                          w14.cell? (⟨t2, 0, none⟩ : Addr) = some (Value.pointer p6) ∧
                          (optP p6 fun d7 =>
                          (w14.cell? (d7.add 2)).isSome = true ∧ w14.frozen? (d7.add 2) = false ∧ ∀ w15, w15 = w14.setCell (d7.add 2) (Value.slice p10 (n3 + 1) c5) →
                          (C1 t2 t18p t18n t18c t19 (IntKind.i64.wrap (t20 + 1)) w15)))))))))))))))))))))))) (fun ch w11 => R (.panicked ch) w11)))))))) (
    R (.returned (Value.int .i64 0)) w)
def basin_Basin_Put.l1 (t2 : Nat) (t18p : Option Addr) (t18n : Nat) (t18c : Nat) (t19 : Int) (t20 : Int) (w : World) (R : Ending → World → Prop) : Prop :=
  ∃ (I : Nat → Option Addr → Nat → Nat → Int → Int → World → Prop) (m : Nat → Option Addr → Nat → Nat → Int → Int → World → Nat), I t2 t18p t18n t18c t19 t20 w ∧
  ∀ (t2 : Nat) (t18p : Option Addr) (t18n : Nat) (t18c : Nat) (t19 : Int) (t20 : Int) (w : World), I t2 t18p t18n t18c t19 t20 w →
  basin_Basin_Put.b1 t2 t18p t18n t18c t19 t20 w R (fun t2' t18p' t18n' t18c' t19' t20' w' => I t2' t18p' t18n' t18c' t19' t20' w' ∧ m t2' t18p' t18n' t18c' t19' t20' w' < m t2 t18p t18n t18c t19 t20 w)
def basin_Basin_Put.main (a0 : Option Addr) (a1p : Option Addr) (a1n : Nat) (a1c : Nat) (w : World) (R : Ending → World → Prop) : Prop :=
  newP w #[(Value.pointer a0)] 24 fun b1 w1 =>
  ∃ (p1 : Option Addr), w1.cell? (⟨b1, 0, none⟩ : Addr) = some (Value.pointer p1) ∧
  (callP Try.prog 23 #[(Value.pointer p1)] w1 (fun v1 w2 =>
      dI .i64 v1 fun x1 =>
      cond (x1 != 0) (
        R (.returned (Value.int .i64 x1)) w2) (
        callP Try.prog 24 #[(Value.slice a1p a1n a1c), (Value.func (.func 25) #[] #[])] w2 (fun v2 w4 =>
          dB v2 fun b2 =>
          cond b2 (
            R (.returned (Value.int .i64 6)) w4) (
            callP Try.prog 24 #[(Value.slice a1p a1n a1c), (Value.func (.func 26) #[] #[(Value.pointer (some (⟨b1, 0, none⟩ : Addr)))])] w4 (fun v3 w6 =>
              dB v3 fun b3 =>
              cond b3 (
                R (.returned (Value.int .i64 5)) w6) (
                basin_Basin_Put.l1 b1 a1p a1n a1c ((a1n : Nat) : Int) 0 w6 R)) (fun ch w7 => R (.panicked ch) w7))) (fun ch w5 => R (.panicked ch) w5))) (fun ch w3 => R (.panicked ch) w3))
abbrev basin_Basin_Put.C (a0 : Option Addr) (a1p : Option Addr) (a1n : Nat) (a1c : Nat) (w : World) (R : Ending → World → Prop) : Prop := Calls Try.prog 10 #[(Value.pointer a0), (Value.slice a1p a1n a1c)] w R
noncomputable def basin_Basin_Put.code : Code := (Try.f10.body).getD .skip
noncomputable def basin_Basin_Put.sk (R : Ending → World → Prop) : Sk := (.seq .leaf (.seq .leaf (.seq .leaf (.seq .leaf (.seq (.seq .leaf (.block (.loop [(2, .blk), (18, .slice), (19, .int .i64), (20, .int .i64)] (fun (t2 : Nat) (t18p : Option Addr) (t18n : Nat) (t18c : Nat) (t19 : Int) (t20 : Int) (w : World) => basin_Basin_Put.l1 t2 t18p t18n t18c t19 t20 w R) (fun (C1 : Nat → Option Addr → Nat → Nat → Int → Int → World → Prop) => .leaf)))) .leaf)))))
def basin_Basin_Put.owed (R : Ending → World → Prop) : Prop :=
  (∀ (t2 : Nat) (t18p : Option Addr) (t18n : Nat) (t18c : Nat) (t19 : Int) (t20 : Int) (w : World), basin_Basin_Put.l1 t2 t18p t18n t18c t19 t20 w R → basin_Basin_Put.l1 t2 t18p t18n t18c t19 t20 w R) ∧ (∀ (C1 : Nat → Option Addr → Nat → Nat → Int → Int → World → Prop), True) ∧ True
theorem basin_Basin_Put.pays (R : Ending → World → Prop) : basin_Basin_Put.owed R := ⟨(fun _ _ _ _ _ _ _ h => h), (fun _ => trivial), trivial⟩
set_option maxRecDepth 100000 in
theorem basin_Basin_Put.ok {a0 : Option Addr} {a1p : Option Addr} {a1n : Nat} {a1c : Nat} {w : World} {R : Ending → World → Prop} (h : basin_Basin_Put.main a0 a1p a1n a1c w R) : basin_Basin_Put.C a0 a1p a1n a1c w R :=
  ev_ok cxok (c := cx) Try.func10 (code := basin_Basin_Put.code) (by kernel_rfl) [.tmp 4] (by kernel_rfl) 54 (by kernel_rfl) (basin_Basin_Put.sk R) (args := [(Value.pointer a0), (Value.slice a1p a1n a1c)]) (Nat.le_of_ble_eq_true rfl) (by kernel_rfl) (o := basin_Basin_Put.owed R) (by kernel_rfl) (basin_Basin_Put.pays R) h

/-! ### (*stopcock/basin.Basin).Flush: function 12 -/
def basin_Basin_Flush.main (a0 : Option Addr) (w : World) (R : Ending → World → Prop) : Prop :=
  callP Try.prog 23 #[(Value.pointer a0)] w (fun v1 w1 =>
    dI .i64 v1 fun x1 =>
    cond (x1 != 0) (
      R (.returned (Value.int .i64 x1)) w1) (
      callP Try.prog 27 #[(Value.pointer a0)] w1 (fun v2 w3 =>
        dB v2 fun b1 =>
        cond b1 (
          R (.returned (Value.int .i64 10)) w3) (
          optP a0 fun d1 =>
          ∃ (p1 : Option Addr) (n1 : Nat) (c1 : Nat), w3.drew.cell? d1 = some (Value.slice p1 n1 c1) ∧
          (optP a0 fun d2 =>
            ∃ (p2 : Option Addr) (n2 : Nat) (c2 : Nat), w3.drew.cell? (d2.add 1) = some (Value.slice p2 n2 c2) ∧
            (copyP w3.drew p1 n1 p2 n2 64 fun w5 =>
              optP a0 fun d3 =>
              (w5.cell? (d3.add 2)).isSome = true ∧ w5.frozen? (d3.add 2) = false ∧ ∀ w6, w6 = w5.setCell (d3.add 2) (Value.slice none 0 0) →
              (R (.returned (Value.int .i64 0)) w6))))) (fun ch w4 => R (.panicked ch) w4))) (fun ch w2 => R (.panicked ch) w2)
abbrev basin_Basin_Flush.C (a0 : Option Addr) (w : World) (R : Ending → World → Prop) : Prop := Calls Try.prog 12 #[(Value.pointer a0)] w R
noncomputable def basin_Basin_Flush.code : Code := (Try.f12.body).getD .skip
noncomputable def basin_Basin_Flush.sk (R : Ending → World → Prop) : Sk := .leaf
def basin_Basin_Flush.owed (R : Ending → World → Prop) : Prop :=
  True
theorem basin_Basin_Flush.pays (R : Ending → World → Prop) : basin_Basin_Flush.owed R := trivial
set_option maxRecDepth 100000 in
theorem basin_Basin_Flush.ok {a0 : Option Addr} {w : World} {R : Ending → World → Prop} (h : basin_Basin_Flush.main a0 w R) : basin_Basin_Flush.C a0 w R :=
  ev_ok cxok (c := cx) Try.func12 (code := basin_Basin_Flush.code) (by kernel_rfl) [.tmp 2] (by kernel_rfl) 23 (by kernel_rfl) (basin_Basin_Flush.sk R) (args := [(Value.pointer a0)]) (Nat.le_of_ble_eq_true rfl) (by kernel_rfl) (o := basin_Basin_Flush.owed R) (by kernel_rfl) (basin_Basin_Flush.pays R) h

/-! ### (*stopcock/basin.Basin).Crash: function 13 -/
def basin_Basin_Crash.k1 (t0 : Option Addr) (w : World) (R : Ending → World → Prop) : Prop :=
  optP t0 fun d5 =>
  ∃ (p3 : Option Addr) (n3 : Nat) (c3 : Nat), w.drew.cell? (d5.add 1) = some (Value.slice p3 n3 c3) ∧
  (optP t0 fun d6 =>
    ∃ (p4 : Option Addr) (n4 : Nat) (c4 : Nat), w.drew.cell? d6 = some (Value.slice p4 n4 c4) ∧
    (copyP w.drew p3 n3 p4 n4 64 fun w6 =>
      optP t0 fun d7 =>
      (w6.cell? (d7.add 2)).isSome = true ∧ w6.frozen? (d7.add 2) = false ∧ ∀ w7, w7 = w6.setCell (d7.add 2) (Value.slice none 0 0) →
      (optP t0 fun d8 =>
        (w7.cell? (d8.add 3)).isSome = true ∧ w7.frozen? (d8.add 3) = false ∧ ∀ w8, w8 = w7.setCell (d8.add 3) (Value.int .i64 (-1)) →
        (optP t0 fun d9 =>
          (w8.cell? (d9.add 4)).isSome = true ∧ w8.frozen? (d9.add 4) = false ∧ ∀ w9, w9 = w8.setCell (d9.add 4) (Value.bool false) →
          (R (.returned (Value.tuple #[])) w9)))))
def basin_Basin_Crash.b1 (t0 : Option Addr) (t1p : Option Addr) (t1n : Nat) (t1c : Nat) (t11p : Option Addr) (t11n : Nat) (t11c : Nat) (t12 : Int) (t13 : Int) (w : World) (R : Ending → World → Prop) (C1 : Option Addr → Option Addr → Nat → Nat → Option Addr → Nat → Nat → Int → Int → World → Prop) : Prop :=
  cond (decide (t13 < t12)) (
    chk (decide (0 ≤ t13)) (
      chk (decide (t13 < ((t11n : Nat) : Int))) (
        optP t11p fun d2 =>
        ∃ (cs1 : Array Value), cs1.size = 65 ∧ CellsAt w (d2.add (t13.toNat * 65)) cs1.toList ∧
        (newP w #[(Value.int .i64 0), (Value.int .u8 0), (Value.int .u8 0), (Value.int .u8 0), (Value.int .u8 0), (Value.int .u8 0), (Value.int .u8 0), (Value.int .u8 0), (Value.int .u8 0), (Value.int .u8 0), (Value.int .u8 0), (Value.int .u8 0), (Value.int .u8 0), (Value.int .u8 0), (Value.int .u8 0), (Value.int .u8 0), (Value.int .u8 0), (Value.int .u8 0), (Value.int .u8 0), (Value.int .u8 0), (Value.int .u8 0), (Value.int .u8 0), (Value.int .u8 0), (Value.int .u8 0), (Value.int .u8 0), (Value.int .u8 0), (Value.int .u8 0), (Value.int .u8 0), (Value.int .u8 0), (Value.int .u8 0), (Value.int .u8 0), (Value.int .u8 0), (Value.int .u8 0), (Value.int .u8 0), (Value.int .u8 0), (Value.int .u8 0), (Value.int .u8 0), (Value.int .u8 0), (Value.int .u8 0), (Value.int .u8 0), (Value.int .u8 0), (Value.int .u8 0), (Value.int .u8 0), (Value.int .u8 0), (Value.int .u8 0), (Value.int .u8 0), (Value.int .u8 0), (Value.int .u8 0), (Value.int .u8 0), (Value.int .u8 0), (Value.int .u8 0), (Value.int .u8 0), (Value.int .u8 0), (Value.int .u8 0), (Value.int .u8 0), (Value.int .u8 0), (Value.int .u8 0), (Value.int .u8 0), (Value.int .u8 0), (Value.int .u8 0), (Value.int .u8 0), (Value.int .u8 0), (Value.int .u8 0), (Value.int .u8 0), (Value.int .u8 0)] 68 fun b1 w1 =>
          chk (decide (cs1.size = 65)) (
            Wr w1 (⟨b1, 0, none⟩ : Addr) cs1.toList ∧ ∀ w2, w2 = w1.setCells (⟨b1, 0, none⟩ : Addr).block (⟨b1, 0, none⟩ : Addr).off cs1.toList →
            (callP Try.prog 28 #[(Value.slice t1p t1n t1c), (Value.int .i64 t13)] w2 (fun v1 w3 =>
                dB v1 fun b2 =>
                cond b2 (
                  optP t0 fun d3 =>
                  ∃ (p2 : Option Addr) (n2 : Nat) (c2 : Nat), w3.drew.cell? d3 = some (Value.slice p2 n2 c2) ∧
                  (∃ (x1 : Int), w3.drew.cell? (⟨b1, 0, none⟩ : Addr) = some (Value.int .i64 x1) ∧
                    (∃ (cs2 : Array Value), cs2.size = 64 ∧ CellsAt w3.drew (⟨b1, 1, none⟩ : Addr) cs2.toList ∧
                      (chk (decide (0 ≤ x1)) (
                          chk (decide (x1 < ((n2 : Nat) : Int))) (
                          optP p2 fun d4 =>
                          chk (decide (cs2.size = 64)) (
                          Wr w3.drew (d4.add (x1.toNat * 64)) cs2.toList ∧ ∀ w5, w5 = w3.drew.setCells (d4.add (x1.toNat * 64)).block (d4.add (x1.toNat * 64)).off cs2.toList →
                          (C1 t0 t1p t1n t1c t11p t11n t11c t12 (IntKind.i64.wrap (t13 + 1)) w5)))))))) (
                  C1 t0 t1p t1n t1c t11p t11n t11c t12 (IntKind.i64.wrap (t13 + 1)) w3)) (fun ch w4 => R (.panicked ch) w4))))))) (
    basin_Basin_Crash.k1 t0 w R)
def basin_Basin_Crash.l1 (t0 : Option Addr) (t1p : Option Addr) (t1n : Nat) (t1c : Nat) (t11p : Option Addr) (t11n : Nat) (t11c : Nat) (t12 : Int) (t13 : Int) (w : World) (R : Ending → World → Prop) : Prop :=
  ∃ (I : Option Addr → Option Addr → Nat → Nat → Option Addr → Nat → Nat → Int → Int → World → Prop) (m : Option Addr → Option Addr → Nat → Nat → Option Addr → Nat → Nat → Int → Int → World → Nat), I t0 t1p t1n t1c t11p t11n t11c t12 t13 w ∧
  ∀ (t0 : Option Addr) (t1p : Option Addr) (t1n : Nat) (t1c : Nat) (t11p : Option Addr) (t11n : Nat) (t11c : Nat) (t12 : Int) (t13 : Int) (w : World), I t0 t1p t1n t1c t11p t11n t11c t12 t13 w →
  basin_Basin_Crash.b1 t0 t1p t1n t1c t11p t11n t11c t12 t13 w R (fun t0' t1p' t1n' t1c' t11p' t11n' t11c' t12' t13' w' => I t0' t1p' t1n' t1c' t11p' t11n' t11c' t12' t13' w' ∧ m t0' t1p' t1n' t1c' t11p' t11n' t11c' t12' t13' w' < m t0 t1p t1n t1c t11p t11n t11c t12 t13 w)
def basin_Basin_Crash.main (a0 : Option Addr) (a1p : Option Addr) (a1n : Nat) (a1c : Nat) (w : World) (R : Ending → World → Prop) : Prop :=
  cond (Option.isNone a0) (
    R (.returned (Value.tuple #[])) w) (
    optP a0 fun d1 =>
    ∃ (p1 : Option Addr) (n1 : Nat) (c1 : Nat), w.cell? (d1.add 2) = some (Value.slice p1 n1 c1) ∧
    (basin_Basin_Crash.l1 a0 a1p a1n a1c p1 n1 c1 ((n1 : Nat) : Int) 0 w R))
abbrev basin_Basin_Crash.C (a0 : Option Addr) (a1p : Option Addr) (a1n : Nat) (a1c : Nat) (w : World) (R : Ending → World → Prop) : Prop := Calls Try.prog 13 #[(Value.pointer a0), (Value.slice a1p a1n a1c)] w R
noncomputable def basin_Basin_Crash.code : Code := (Try.f13.body).getD .skip
noncomputable def basin_Basin_Crash.sk (R : Ending → World → Prop) : Sk := (.seq .leaf (.cut [(0, .ptr)] (fun (t0 : Option Addr) (w : World) => basin_Basin_Crash.k1 t0 w R) (.seq .leaf (.block (.loop [(0, .ptr), (1, .slice), (11, .slice), (12, .int .i64), (13, .int .i64)] (fun (t0 : Option Addr) (t1p : Option Addr) (t1n : Nat) (t1c : Nat) (t11p : Option Addr) (t11n : Nat) (t11c : Nat) (t12 : Int) (t13 : Int) (w : World) => basin_Basin_Crash.l1 t0 t1p t1n t1c t11p t11n t11c t12 t13 w R) (fun (C1 : Option Addr → Option Addr → Nat → Nat → Option Addr → Nat → Nat → Int → Int → World → Prop) => .leaf)))) .leaf))
def basin_Basin_Crash.owed (R : Ending → World → Prop) : Prop :=
  (∀ (t0 : Option Addr) (t1p : Option Addr) (t1n : Nat) (t1c : Nat) (t11p : Option Addr) (t11n : Nat) (t11c : Nat) (t12 : Int) (t13 : Int) (w : World), basin_Basin_Crash.l1 t0 t1p t1n t1c t11p t11n t11c t12 t13 w R → basin_Basin_Crash.l1 t0 t1p t1n t1c t11p t11n t11c t12 t13 w R) ∧ (∀ (C1 : Option Addr → Option Addr → Nat → Nat → Option Addr → Nat → Nat → Int → Int → World → Prop), True) ∧ (∀ (t0 : Option Addr) (w : World), basin_Basin_Crash.k1 t0 w R → basin_Basin_Crash.k1 t0 w R) ∧ True
theorem basin_Basin_Crash.pays (R : Ending → World → Prop) : basin_Basin_Crash.owed R := ⟨(fun _ _ _ _ _ _ _ _ _ _ h => h), (fun _ => trivial), (fun _ _ h => h), trivial⟩
set_option maxRecDepth 100000 in
theorem basin_Basin_Crash.ok {a0 : Option Addr} {a1p : Option Addr} {a1n : Nat} {a1c : Nat} {w : World} {R : Ending → World → Prop} (h : basin_Basin_Crash.main a0 a1p a1n a1c w R) : basin_Basin_Crash.C a0 a1p a1n a1c w R :=
  ev_ok cxok (c := cx) Try.func13 (code := basin_Basin_Crash.code) (by kernel_rfl) [] (by kernel_rfl) 49 (by kernel_rfl) (basin_Basin_Crash.sk R) (args := [(Value.pointer a0), (Value.slice a1p a1n a1c)]) (Nat.le_of_ble_eq_true rfl) (by kernel_rfl) (o := basin_Basin_Crash.owed R) (by kernel_rfl) (basin_Basin_Crash.pays R) h

/-! ### (*stopcock/basin.Basin).Get: function 14 -/
def basin_Basin_Get.main (a0 : Option Addr) (a1 : Int) (w : World) (R : Ending → World → Prop) : Prop :=
  callP Try.prog 23 #[(Value.pointer a0)] w (fun v1 w1 =>
    dI .i64 v1 fun x1 =>
    cond (x1 != 0) (
      R (.returned (Value.tuple #[(Value.slice none 0 0), (Value.int .i64 x1)])) w1) (
      cond (decide (a1 < 0)) (
        R (.returned (Value.tuple #[(Value.slice none 0 0), (Value.int .i64 5)])) w1) (
        optP a0 fun d1 =>
        ∃ (p1 : Option Addr) (n1 : Nat) (c1 : Nat), w1.cell? (d1.add 1) = some (Value.slice p1 n1 c1) ∧
        (cond (decide (a1 ≥ ((n1 : Nat) : Int))) (
            R (.returned (Value.tuple #[(Value.slice none 0 0), (Value.int .i64 5)])) w1) (
            optP a0 fun d2 =>
            ∃ (p2 : Option Addr) (n2 : Nat) (c2 : Nat), w1.cell? (d2.add 1) = some (Value.slice p2 n2 c2) ∧
            (chk (decide (0 ≤ a1)) (
                chk (decide (a1 < ((n2 : Nat) : Int))) (
                  optP p2 fun d3 =>
                  callP Try.prog 29 #[(Value.slice (slA (some (d3.add (a1.toNat * 64))) 64 0 1) 64 64)] w1 (fun v2 w3 =>
                    dS v2 fun p3 n3 c3 =>
                    R (.returned (Value.tuple #[(Value.slice p3 n3 c3), (Value.int .i64 0)])) w3) (fun ch w4 => R (.panicked ch) w4))))))))) (fun ch w2 => R (.panicked ch) w2)
abbrev basin_Basin_Get.C (a0 : Option Addr) (a1 : Int) (w : World) (R : Ending → World → Prop) : Prop := Calls Try.prog 14 #[(Value.pointer a0), (Value.int .i64 a1)] w R
noncomputable def basin_Basin_Get.code : Code := (Try.f14.body).getD .skip
noncomputable def basin_Basin_Get.sk (R : Ending → World → Prop) : Sk := .leaf
def basin_Basin_Get.owed (R : Ending → World → Prop) : Prop :=
  True
theorem basin_Basin_Get.pays (R : Ending → World → Prop) : basin_Basin_Get.owed R := trivial
set_option maxRecDepth 100000 in
theorem basin_Basin_Get.ok {a0 : Option Addr} {a1 : Int} {w : World} {R : Ending → World → Prop} (h : basin_Basin_Get.main a0 a1 w R) : basin_Basin_Get.C a0 a1 w R :=
  ev_ok cxok (c := cx) Try.func14 (code := basin_Basin_Get.code) (by kernel_rfl) [.tmp 4, .tmp 5] (by kernel_rfl) 31 (by kernel_rfl) (basin_Basin_Get.sk R) (args := [(Value.pointer a0), (Value.int .i64 a1)]) (Nat.le_of_ble_eq_true rfl) (by kernel_rfl) (o := basin_Basin_Get.owed R) (by kernel_rfl) (basin_Basin_Get.pays R) h

/-! ### (*stopcock/basin.Basin).Loose: function 15 -/
def basin_Basin_Loose.main (a0 : Option Addr) (w : World) (R : Ending → World → Prop) : Prop :=
  cond (Option.isNone a0) (
    R (.returned (Value.int .i64 0)) w) (
    optP a0 fun d1 =>
    ∃ (p1 : Option Addr) (n1 : Nat) (c1 : Nat), w.cell? (d1.add 2) = some (Value.slice p1 n1 c1) ∧
    (R (.returned (Value.int .i64 ((n1 : Nat) : Int))) w))
abbrev basin_Basin_Loose.C (a0 : Option Addr) (w : World) (R : Ending → World → Prop) : Prop := Calls Try.prog 15 #[(Value.pointer a0)] w R
noncomputable def basin_Basin_Loose.code : Code := (Try.f15.body).getD .skip
noncomputable def basin_Basin_Loose.sk (R : Ending → World → Prop) : Sk := .leaf
def basin_Basin_Loose.owed (R : Ending → World → Prop) : Prop :=
  True
theorem basin_Basin_Loose.pays (R : Ending → World → Prop) : basin_Basin_Loose.owed R := trivial
set_option maxRecDepth 100000 in
theorem basin_Basin_Loose.ok {a0 : Option Addr} {w : World} {R : Ending → World → Prop} (h : basin_Basin_Loose.main a0 w R) : basin_Basin_Loose.C a0 w R :=
  ev_ok cxok (c := cx) Try.func15 (code := basin_Basin_Loose.code) (by kernel_rfl) [.tmp 2] (by kernel_rfl) 10 (by kernel_rfl) (basin_Basin_Loose.sk R) (args := [(Value.pointer a0)]) (Nat.le_of_ble_eq_true rfl) (by kernel_rfl) (o := basin_Basin_Loose.owed R) (by kernel_rfl) (basin_Basin_Loose.pays R) h

/-! ### (*stopcock/basin.Basin).Size: function 16 -/
def basin_Basin_Size.main (a0 : Option Addr) (w : World) (R : Ending → World → Prop) : Prop :=
  cond (Option.isNone a0) (
    R (.returned (Value.int .i64 0)) w) (
    optP a0 fun d1 =>
    ∃ (p1 : Option Addr) (n1 : Nat) (c1 : Nat), w.cell? (d1.add 1) = some (Value.slice p1 n1 c1) ∧
    (R (.returned (Value.int .i64 ((n1 : Nat) : Int))) w))
abbrev basin_Basin_Size.C (a0 : Option Addr) (w : World) (R : Ending → World → Prop) : Prop := Calls Try.prog 16 #[(Value.pointer a0)] w R
noncomputable def basin_Basin_Size.code : Code := (Try.f16.body).getD .skip
noncomputable def basin_Basin_Size.sk (R : Ending → World → Prop) : Sk := .leaf
def basin_Basin_Size.owed (R : Ending → World → Prop) : Prop :=
  True
theorem basin_Basin_Size.pays (R : Ending → World → Prop) : basin_Basin_Size.owed R := trivial
set_option maxRecDepth 100000 in
theorem basin_Basin_Size.ok {a0 : Option Addr} {w : World} {R : Ending → World → Prop} (h : basin_Basin_Size.main a0 w R) : basin_Basin_Size.C a0 w R :=
  ev_ok cxok (c := cx) Try.func16 (code := basin_Basin_Size.code) (by kernel_rfl) [.tmp 2] (by kernel_rfl) 10 (by kernel_rfl) (basin_Basin_Size.sk R) (args := [(Value.pointer a0)]) (Nat.le_of_ble_eq_true rfl) (by kernel_rfl) (o := basin_Basin_Size.owed R) (by kernel_rfl) (basin_Basin_Size.pays R) h

/-! ### stopcock/stopcockref05.New: function 17 -/
def stopcockref05_New.b1 (t0 : Int) (t3 : Nat) (t4 : Int) (w : World) (R : Ending → World → Prop) (C1 : Int → Nat → Int → World → Prop) : Prop :=
  cond (decide (t4 < t0)) (
    ∃ (p1 : Option Addr) (n1 : Nat) (c1 : Nat), w.drew.cell? (⟨t3, 0, none⟩ : Addr) = some (Value.slice p1 n1 c1) ∧
    (newP w.drew (madeCells #[(Value.int .u8 0)] (64 * 1)) 5 fun b2 w2 =>
      w2.cell? (⟨t3, 0, none⟩ : Addr) = some (Value.slice p1 n1 c1) ∧
      (∃ (ns1 : List Int), ns1.length = 64 ∧ CellsO w2 (some ⟨b2, 0, none⟩) (ns1.map (Value.int .u8)) ∧
        (newP w2 #[(Value.string (strOf ns1))] 9 fun b3 w3 =>
          w3.cell? (⟨t3, 0, none⟩ : Addr) = some (Value.slice p1 n1 c1) ∧
          (appP w3 p1 n1 c1 1 (CellsO w3 (some ⟨b3, 0, none⟩)) 9 1 16 #[(Value.string ⟨#[]⟩)] fun p2 c2 w4 =>
            (w4.cell? (⟨t3, 0, none⟩ : Addr)).isSome = true ∧ w4.frozen? (⟨t3, 0, none⟩ : Addr) = false ∧ ∀ w5, w5 = w4.setCell (⟨t3, 0, none⟩ : Addr) (Value.slice p2 (n1 + 1) c2) →
            (C1 t0 t3 (IntKind.i64.wrap (t4 + 1)) w5)))))) (
    R (.returned (Value.pointer (some (⟨t3, 0, none⟩ : Addr)))) w)
def stopcockref05_New.l1 (t0 : Int) (t3 : Nat) (t4 : Int) (w : World) (R : Ending → World → Prop) : Prop :=
  ∃ (I : Int → Nat → Int → World → Prop) (m : Int → Nat → Int → World → Nat), I t0 t3 t4 w ∧
  ∀ (t0 : Int) (t3 : Nat) (t4 : Int) (w : World), I t0 t3 t4 w →
  stopcockref05_New.b1 t0 t3 t4 w R (fun t0' t3' t4' w' => I t0' t3' t4' w' ∧ m t0' t3' t4' w' < m t0 t3 t4 w)
def stopcockref05_New.main (a0 : Int) (w : World) (R : Ending → World → Prop) : Prop :=
  newP w #[(Value.slice none 0 0), (Value.slice none 0 0), (Value.int .i64 (-1)), (Value.bool false)] 54 fun b1 w1 =>
  stopcockref05_New.l1 a0 b1 0 w1 R
abbrev stopcockref05_New.C (a0 : Int) (w : World) (R : Ending → World → Prop) : Prop := Calls Try.prog 17 #[(Value.int .i64 a0)] w R
noncomputable def stopcockref05_New.code : Code := (Try.f17.body).getD .skip
noncomputable def stopcockref05_New.sk (R : Ending → World → Prop) : Sk := (.seq .leaf (.seq .leaf (.seq (.seq .leaf (.block (.loop [(0, .int .i64), (3, .blk), (4, .int .i64)] (fun (t0 : Int) (t3 : Nat) (t4 : Int) (w : World) => stopcockref05_New.l1 t0 t3 t4 w R) (fun (C1 : Int → Nat → Int → World → Prop) => .leaf)))) .leaf)))
def stopcockref05_New.owed (R : Ending → World → Prop) : Prop :=
  (∀ (t0 : Int) (t3 : Nat) (t4 : Int) (w : World), stopcockref05_New.l1 t0 t3 t4 w R → stopcockref05_New.l1 t0 t3 t4 w R) ∧ (∀ (C1 : Int → Nat → Int → World → Prop), True) ∧ True
theorem stopcockref05_New.pays (R : Ending → World → Prop) : stopcockref05_New.owed R := ⟨(fun _ _ _ _ h => h), (fun _ => trivial), trivial⟩
set_option maxRecDepth 100000 in
theorem stopcockref05_New.ok {a0 : Int} {w : World} {R : Ending → World → Prop} (h : stopcockref05_New.main a0 w R) : stopcockref05_New.C a0 w R :=
  ev_ok cxok (c := cx) Try.func17 (code := stopcockref05_New.code) (by kernel_rfl) [.tmp 2] (by kernel_rfl) 24 (by kernel_rfl) (stopcockref05_New.sk R) (args := [(Value.int .i64 a0)]) (Nat.le_of_ble_eq_true rfl) (by kernel_rfl) (o := stopcockref05_New.owed R) (by kernel_rfl) (stopcockref05_New.pays R) h

/-! ### (*stopcock/stopcockref05.Basin).Put: function 18 -/
def stopcockref05_Basin_Put.b3 (t0 : Option Addr) (t1p : Option Addr) (t1n : Nat) (t1c : Nat) (t7 : Int) (w : World) (R : Ending → World → Prop) (C3 : Option Addr → Option Addr → Nat → Nat → Int → World → Prop) : Prop :=
  cond (decide (t7 < ((t1n : Nat) : Int))) (
    callP Try.prog 30 #[(Value.pointer t0)] w (fun v1 w1 =>
      dB v1 fun b2 =>
      cond b2 (
        R (.returned (Value.int .i64 10)) w1) (
        optP t0 fun d6 =>
        ∃ (p3 : Option Addr) (n3 : Nat) (c3 : Nat), w1.drew.cell? (d6.add 1) = some (Value.slice p3 n3 c3) ∧
        (chk (decide (0 ≤ t7)) (
            chk (decide (t7 < ((t1n : Nat) : Int))) (
              optP t1p fun d7 =>
              ∃ (x3 : Int), w1.drew.cell? (d7.add (t7.toNat * 2)) = some (Value.int .i64 x3) ∧
              (chk (decide (0 ≤ t7)) (
                  chk (decide (t7 < ((t1n : Nat) : Int))) (
                    optP t1p fun d8 =>
                    ∃ (p4 : Option Addr) (n4 : Nat) (c4 : Nat), w1.drew.cell? ((d8.add (t7.toNat * 2)).add 1) = some (Value.slice p4 n4 c4) ∧
                    (∃ (ns1 : List Int), ns1.length = n4 ∧ CellsO w1.drew p4 (ns1.map (Value.int .u8)) ∧
                      (newP w1.drew #[(Value.int .i64 x3), (Value.string (strOf ns1))] 72 fun b3 w3 =>
                        w3.cell? (d6.add 1) = some (Value.slice p3 n3 c3) ∧
                        (appP w3 p3 n3 c3 1 (CellsO w3 (some ⟨b3, 0, none⟩)) 72 2 24 #[(Value.int .i64 0), (Value.string ⟨#[]⟩)] fun p5 c5 w4 =>
                          optP t0 fun d9 =>
                          (w4.cell? (d9.add 1)).isSome = true ∧ w4.frozen? (d9.add 1) = false ∧ ∀ w5, w5 = w4.setCell (d9.add 1) (Value.slice p5 (n3 + 1) c5) →
                          (C3 t0 t1p t1n t1c (IntKind.i64.wrap (t7 + 1)) w5)))))))))))) (fun ch w2 => R (.panicked ch) w2)) (
    R (.returned (Value.int .i64 0)) w)
def stopcockref05_Basin_Put.l3 (t0 : Option Addr) (t1p : Option Addr) (t1n : Nat) (t1c : Nat) (t7 : Int) (w : World) (R : Ending → World → Prop) : Prop :=
  ∃ (I : Option Addr → Option Addr → Nat → Nat → Int → World → Prop) (m : Option Addr → Option Addr → Nat → Nat → Int → World → Nat), I t0 t1p t1n t1c t7 w ∧
  ∀ (t0 : Option Addr) (t1p : Option Addr) (t1n : Nat) (t1c : Nat) (t7 : Int) (w : World), I t0 t1p t1n t1c t7 w →
  stopcockref05_Basin_Put.b3 t0 t1p t1n t1c t7 w R (fun t0' t1p' t1n' t1c' t7' w' => I t0' t1p' t1n' t1c' t7' w' ∧ m t0' t1p' t1n' t1c' t7' w' < m t0 t1p t1n t1c t7 w)
def stopcockref05_Basin_Put.k2 (t0 : Option Addr) (t1p : Option Addr) (t1n : Nat) (t1c : Nat) (w : World) (R : Ending → World → Prop) : Prop :=
  stopcockref05_Basin_Put.l3 t0 t1p t1n t1c 0 w R
def stopcockref05_Basin_Put.b2 (t0 : Option Addr) (t1p : Option Addr) (t1n : Nat) (t1c : Nat) (t6 : Int) (w : World) (R : Ending → World → Prop) (C2 : Option Addr → Option Addr → Nat → Nat → Int → World → Prop) : Prop :=
  cond (decide (t6 < ((t1n : Nat) : Int))) (
    chk (decide (0 ≤ t6)) (
      chk (decide (t6 < ((t1n : Nat) : Int))) (
        optP t1p fun d3 =>
        ∃ (x1 : Int), w.cell? (d3.add (t6.toNat * 2)) = some (Value.int .i64 x1) ∧
        (cond (decide (x1 < 0)) (
            ∀ k1 : Nat,
            R (.returned (Value.int .i64 5)) (w.drewN k1)) (
            chk (decide (0 ≤ t6)) (
              chk (decide (t6 < ((t1n : Nat) : Int))) (
                optP t1p fun d4 =>
                ∃ (x2 : Int), w.cell? (d4.add (t6.toNat * 2)) = some (Value.int .i64 x2) ∧
                (optP t0 fun d5 =>
                  ∃ (p2 : Option Addr) (n2 : Nat) (c2 : Nat), w.cell? d5 = some (Value.slice p2 n2 c2) ∧
                  (∀ k1 : Nat,
                    cond (decide (x2 ≥ ((n2 : Nat) : Int))) (
                      R (.returned (Value.int .i64 5)) (w.drewN k1)) (
                      C2 t0 t1p t1n t1c (IntKind.i64.wrap (t6 + 1)) (w.drewN k1))))))))))) (
    stopcockref05_Basin_Put.k2 t0 t1p t1n t1c w R)
def stopcockref05_Basin_Put.l2 (t0 : Option Addr) (t1p : Option Addr) (t1n : Nat) (t1c : Nat) (t6 : Int) (w : World) (R : Ending → World → Prop) : Prop :=
  ∃ (I : Option Addr → Option Addr → Nat → Nat → Int → World → Prop) (m : Option Addr → Option Addr → Nat → Nat → Int → World → Nat), I t0 t1p t1n t1c t6 w ∧
  ∀ (t0 : Option Addr) (t1p : Option Addr) (t1n : Nat) (t1c : Nat) (t6 : Int) (w : World), I t0 t1p t1n t1c t6 w →
  stopcockref05_Basin_Put.b2 t0 t1p t1n t1c t6 w R (fun t0' t1p' t1n' t1c' t6' w' => I t0' t1p' t1n' t1c' t6' w' ∧ m t0' t1p' t1n' t1c' t6' w' < m t0 t1p t1n t1c t6 w)
def stopcockref05_Basin_Put.k1 (t0 : Option Addr) (t1p : Option Addr) (t1n : Nat) (t1c : Nat) (w : World) (R : Ending → World → Prop) : Prop :=
  stopcockref05_Basin_Put.l2 t0 t1p t1n t1c 0 w R
def stopcockref05_Basin_Put.b1 (t0 : Option Addr) (t1p : Option Addr) (t1n : Nat) (t1c : Nat) (t5 : Int) (w : World) (R : Ending → World → Prop) (C1 : Option Addr → Option Addr → Nat → Nat → Int → World → Prop) : Prop :=
  cond (decide (t5 < ((t1n : Nat) : Int))) (
    chk (decide (0 ≤ t5)) (
      chk (decide (t5 < ((t1n : Nat) : Int))) (
        optP t1p fun d2 =>
        ∃ (p1 : Option Addr) (n1 : Nat) (c1 : Nat), w.cell? ((d2.add (t5.toNat * 2)).add 1) = some (Value.slice p1 n1 c1) ∧
        (cond (((n1 : Nat) : Int) != 64) (
            R (.returned (Value.int .i64 6)) w) (
            C1 t0 t1p t1n t1c (IntKind.i64.wrap (t5 + 1)) w))))) (
    stopcockref05_Basin_Put.k1 t0 t1p t1n t1c w R)
def stopcockref05_Basin_Put.l1 (t0 : Option Addr) (t1p : Option Addr) (t1n : Nat) (t1c : Nat) (t5 : Int) (w : World) (R : Ending → World → Prop) : Prop :=
  ∃ (I : Option Addr → Option Addr → Nat → Nat → Int → World → Prop) (m : Option Addr → Option Addr → Nat → Nat → Int → World → Nat), I t0 t1p t1n t1c t5 w ∧
  ∀ (t0 : Option Addr) (t1p : Option Addr) (t1n : Nat) (t1c : Nat) (t5 : Int) (w : World), I t0 t1p t1n t1c t5 w →
  stopcockref05_Basin_Put.b1 t0 t1p t1n t1c t5 w R (fun t0' t1p' t1n' t1c' t5' w' => I t0' t1p' t1n' t1c' t5' w' ∧ m t0' t1p' t1n' t1c' t5' w' < m t0 t1p t1n t1c t5 w)
def stopcockref05_Basin_Put.main (a0 : Option Addr) (a1p : Option Addr) (a1n : Nat) (a1c : Nat) (w : World) (R : Ending → World → Prop) : Prop :=
  optP a0 fun d1 =>
  ∃ (b1 : Bool), w.cell? (d1.add 3) = some (Value.bool b1) ∧
  (cond b1 (
      R (.returned (Value.int .i64 10)) w) (
      stopcockref05_Basin_Put.l1 a0 a1p a1n a1c 0 w R))
abbrev stopcockref05_Basin_Put.C (a0 : Option Addr) (a1p : Option Addr) (a1n : Nat) (a1c : Nat) (w : World) (R : Ending → World → Prop) : Prop := Calls Try.prog 18 #[(Value.pointer a0), (Value.slice a1p a1n a1c)] w R
noncomputable def stopcockref05_Basin_Put.code : Code := (Try.f18.body).getD .skip
noncomputable def stopcockref05_Basin_Put.sk (R : Ending → World → Prop) : Sk := (.seq .leaf (.seq .leaf (.cut [(0, .ptr), (1, .slice)] (fun (t0 : Option Addr) (t1p : Option Addr) (t1n : Nat) (t1c : Nat) (w : World) => stopcockref05_Basin_Put.k1 t0 t1p t1n t1c w R) (.seq .leaf (.block (.loop [(0, .ptr), (1, .slice), (5, .int .i64)] (fun (t0 : Option Addr) (t1p : Option Addr) (t1n : Nat) (t1c : Nat) (t5 : Int) (w : World) => stopcockref05_Basin_Put.l1 t0 t1p t1n t1c t5 w R) (fun (C1 : Option Addr → Option Addr → Nat → Nat → Int → World → Prop) => .leaf)))) (.cut [(0, .ptr), (1, .slice)] (fun (t0 : Option Addr) (t1p : Option Addr) (t1n : Nat) (t1c : Nat) (w : World) => stopcockref05_Basin_Put.k2 t0 t1p t1n t1c w R) (.seq .leaf (.block (.loop [(0, .ptr), (1, .slice), (6, .int .i64)] (fun (t0 : Option Addr) (t1p : Option Addr) (t1n : Nat) (t1c : Nat) (t6 : Int) (w : World) => stopcockref05_Basin_Put.l2 t0 t1p t1n t1c t6 w R) (fun (C2 : Option Addr → Option Addr → Nat → Nat → Int → World → Prop) => .leaf)))) (.seq (.seq .leaf (.block (.loop [(0, .ptr), (1, .slice), (7, .int .i64)] (fun (t0 : Option Addr) (t1p : Option Addr) (t1n : Nat) (t1c : Nat) (t7 : Int) (w : World) => stopcockref05_Basin_Put.l3 t0 t1p t1n t1c t7 w R) (fun (C3 : Option Addr → Option Addr → Nat → Nat → Int → World → Prop) => .leaf)))) .leaf)))))
def stopcockref05_Basin_Put.owed (R : Ending → World → Prop) : Prop :=
  (∀ (t0 : Option Addr) (t1p : Option Addr) (t1n : Nat) (t1c : Nat) (t5 : Int) (w : World), stopcockref05_Basin_Put.l1 t0 t1p t1n t1c t5 w R → stopcockref05_Basin_Put.l1 t0 t1p t1n t1c t5 w R) ∧ (∀ (C1 : Option Addr → Option Addr → Nat → Nat → Int → World → Prop), True) ∧ (∀ (t0 : Option Addr) (t1p : Option Addr) (t1n : Nat) (t1c : Nat) (w : World), stopcockref05_Basin_Put.k1 t0 t1p t1n t1c w R → stopcockref05_Basin_Put.k1 t0 t1p t1n t1c w R) ∧ (∀ (t0 : Option Addr) (t1p : Option Addr) (t1n : Nat) (t1c : Nat) (t6 : Int) (w : World), stopcockref05_Basin_Put.l2 t0 t1p t1n t1c t6 w R → stopcockref05_Basin_Put.l2 t0 t1p t1n t1c t6 w R) ∧ (∀ (C2 : Option Addr → Option Addr → Nat → Nat → Int → World → Prop), True) ∧ (∀ (t0 : Option Addr) (t1p : Option Addr) (t1n : Nat) (t1c : Nat) (w : World), stopcockref05_Basin_Put.k2 t0 t1p t1n t1c w R → stopcockref05_Basin_Put.k2 t0 t1p t1n t1c w R) ∧ (∀ (t0 : Option Addr) (t1p : Option Addr) (t1n : Nat) (t1c : Nat) (t7 : Int) (w : World), stopcockref05_Basin_Put.l3 t0 t1p t1n t1c t7 w R → stopcockref05_Basin_Put.l3 t0 t1p t1n t1c t7 w R) ∧ (∀ (C3 : Option Addr → Option Addr → Nat → Nat → Int → World → Prop), True) ∧ True
theorem stopcockref05_Basin_Put.pays (R : Ending → World → Prop) : stopcockref05_Basin_Put.owed R := ⟨(fun _ _ _ _ _ _ h => h), (fun _ => trivial), (fun _ _ _ _ _ h => h), (fun _ _ _ _ _ _ h => h), (fun _ => trivial), (fun _ _ _ _ _ h => h), (fun _ _ _ _ _ _ h => h), (fun _ => trivial), trivial⟩
set_option maxRecDepth 100000 in
theorem stopcockref05_Basin_Put.ok {a0 : Option Addr} {a1p : Option Addr} {a1n : Nat} {a1c : Nat} {w : World} {R : Ending → World → Prop} (h : stopcockref05_Basin_Put.main a0 a1p a1n a1c w R) : stopcockref05_Basin_Put.C a0 a1p a1n a1c w R :=
  ev_ok cxok (c := cx) Try.func18 (code := stopcockref05_Basin_Put.code) (by kernel_rfl) [.tmp 4] (by kernel_rfl) 79 (by kernel_rfl) (stopcockref05_Basin_Put.sk R) (args := [(Value.pointer a0), (Value.slice a1p a1n a1c)]) (Nat.le_of_ble_eq_true rfl) (by kernel_rfl) (o := stopcockref05_Basin_Put.owed R) (by kernel_rfl) (stopcockref05_Basin_Put.pays R) h

/-! ### (*stopcock/stopcockref05.Basin).Get: function 19 -/
def stopcockref05_Basin_Get.k1 (t0 : Option Addr) (t1 : Int) (w : World) (R : Ending → World → Prop) : Prop :=
  optP t0 fun d8 =>
  ∃ (p5 : Option Addr) (n5 : Nat) (c5 : Nat), w.cell? d8 = some (Value.slice p5 n5 c5) ∧
  (chk (decide (0 ≤ t1)) (
      chk (decide (t1 < ((n5 : Nat) : Int))) (
        optP p5 fun d9 =>
        ∃ (s2 : ByteArray), w.cell? (d9.add (t1.toNat * 1)) = some (Value.string s2) ∧
        (R (.returned (Value.tuple #[(Value.string s2), (Value.int .i64 0)])) w))))
def stopcockref05_Basin_Get.b1 (t0 : Option Addr) (t1 : Int) (t6 : Int) (w : World) (R : Ending → World → Prop) (C1 : Option Addr → Int → Int → World → Prop) : Prop :=
  cond (decide (t6 ≥ 0)) (
    optP t0 fun d4 =>
    ∃ (p3 : Option Addr) (n3 : Nat) (c3 : Nat), w.cell? (d4.add 1) = some (Value.slice p3 n3 c3) ∧
    (chk (decide (0 ≤ t6)) (
        chk (decide (t6 < ((n3 : Nat) : Int))) (
          optP p3 fun d5 =>
          ∃ (x1 : Int), w.cell? (d5.add (t6.toNat * 2)) = some (Value.int .i64 x1) ∧
          (cond (x1 == t1) (
              optP t0 fun d6 =>
              ∃ (p4 : Option Addr) (n4 : Nat) (c4 : Nat), w.cell? (d6.add 1) = some (Value.slice p4 n4 c4) ∧
              (chk (decide (0 ≤ t6)) (
                  chk (decide (t6 < ((n4 : Nat) : Int))) (
                    optP p4 fun d7 =>
                    ∃ (s1 : ByteArray), w.cell? ((d7.add (t6.toNat * 2)).add 1) = some (Value.string s1) ∧
                    (R (.returned (Value.tuple #[(Value.string s1), (Value.int .i64 0)])) w))))) (
              C1 t0 t1 (IntKind.i64.wrap (t6 - 1)) w)))))) (
    stopcockref05_Basin_Get.k1 t0 t1 w R)
def stopcockref05_Basin_Get.l1 (t0 : Option Addr) (t1 : Int) (t6 : Int) (w : World) (R : Ending → World → Prop) : Prop :=
  ∃ (I : Option Addr → Int → Int → World → Prop) (m : Option Addr → Int → Int → World → Nat), I t0 t1 t6 w ∧
  ∀ (t0 : Option Addr) (t1 : Int) (t6 : Int) (w : World), I t0 t1 t6 w →
  stopcockref05_Basin_Get.b1 t0 t1 t6 w R (fun t0' t1' t6' w' => I t0' t1' t6' w' ∧ m t0' t1' t6' w' < m t0 t1 t6 w)
def stopcockref05_Basin_Get.main (a0 : Option Addr) (a1 : Int) (w : World) (R : Ending → World → Prop) : Prop :=
  optP a0 fun d1 =>
  ∃ (b1 : Bool), w.cell? (d1.add 3) = some (Value.bool b1) ∧
  (cond b1 (
      R (.returned (Value.tuple #[(Value.string (⟨#[]⟩ : ByteArray)), (Value.int .i64 10)])) w) (
      cond (decide (a1 < 0)) (
        R (.returned (Value.tuple #[(Value.string (⟨#[]⟩ : ByteArray)), (Value.int .i64 5)])) w) (
        optP a0 fun d2 =>
        ∃ (p1 : Option Addr) (n1 : Nat) (c1 : Nat), w.cell? d2 = some (Value.slice p1 n1 c1) ∧
        (cond (decide (a1 ≥ ((n1 : Nat) : Int))) (
            R (.returned (Value.tuple #[(Value.string (⟨#[]⟩ : ByteArray)), (Value.int .i64 5)])) w) (
            optP a0 fun d3 =>
            ∃ (p2 : Option Addr) (n2 : Nat) (c2 : Nat), w.cell? (d3.add 1) = some (Value.slice p2 n2 c2) ∧
            (stopcockref05_Basin_Get.l1 a0 a1 (IntKind.i64.wrap (((n2 : Nat) : Int) - 1)) w R))))))
abbrev stopcockref05_Basin_Get.C (a0 : Option Addr) (a1 : Int) (w : World) (R : Ending → World → Prop) : Prop := Calls Try.prog 19 #[(Value.pointer a0), (Value.int .i64 a1)] w R
noncomputable def stopcockref05_Basin_Get.code : Code := (Try.f19.body).getD .skip
noncomputable def stopcockref05_Basin_Get.sk (R : Ending → World → Prop) : Sk := (.seq .leaf (.seq .leaf (.seq .leaf (.cut [(0, .ptr), (1, .int .i64)] (fun (t0 : Option Addr) (t1 : Int) (w : World) => stopcockref05_Basin_Get.k1 t0 t1 w R) (.seq .leaf (.block (.loop [(0, .ptr), (1, .int .i64), (6, .int .i64)] (fun (t0 : Option Addr) (t1 : Int) (t6 : Int) (w : World) => stopcockref05_Basin_Get.l1 t0 t1 t6 w R) (fun (C1 : Option Addr → Int → Int → World → Prop) => .leaf)))) .leaf))))
def stopcockref05_Basin_Get.owed (R : Ending → World → Prop) : Prop :=
  (∀ (t0 : Option Addr) (t1 : Int) (t6 : Int) (w : World), stopcockref05_Basin_Get.l1 t0 t1 t6 w R → stopcockref05_Basin_Get.l1 t0 t1 t6 w R) ∧ (∀ (C1 : Option Addr → Int → Int → World → Prop), True) ∧ (∀ (t0 : Option Addr) (t1 : Int) (w : World), stopcockref05_Basin_Get.k1 t0 t1 w R → stopcockref05_Basin_Get.k1 t0 t1 w R) ∧ True
theorem stopcockref05_Basin_Get.pays (R : Ending → World → Prop) : stopcockref05_Basin_Get.owed R := ⟨(fun _ _ _ _ h => h), (fun _ => trivial), (fun _ _ _ h => h), trivial⟩
set_option maxRecDepth 100000 in
theorem stopcockref05_Basin_Get.ok {a0 : Option Addr} {a1 : Int} {w : World} {R : Ending → World → Prop} (h : stopcockref05_Basin_Get.main a0 a1 w R) : stopcockref05_Basin_Get.C a0 a1 w R :=
  ev_ok cxok (c := cx) Try.func19 (code := stopcockref05_Basin_Get.code) (by kernel_rfl) [.tmp 4, .tmp 5] (by kernel_rfl) 57 (by kernel_rfl) (stopcockref05_Basin_Get.sk R) (args := [(Value.pointer a0), (Value.int .i64 a1)]) (Nat.le_of_ble_eq_true rfl) (by kernel_rfl) (o := stopcockref05_Basin_Get.owed R) (by kernel_rfl) (stopcockref05_Basin_Get.pays R) h

end Go.Proofs.Yticdeknmeafjcaa.G

/- Statements of functions, and that their calls do what they say. Printed by wip/tool/dec.py. Conditions: none. -/
import Derived.Test.YtpbnjjjglbnnpaaG0
namespace Go.Proofs.Ytpbnjjjglbnnpaa.G
open Go.Dec
set_option linter.unusedVariables false

/-! ### stopcock/stopcocklaw19.GateNone: function 5 -/
def stopcocklaw19_GateNone.main (a0_0 : Int) (a0_1 : Int) (a0_2 : Int) (a0_3 : Int) (a0_4p : Option Addr) (a0_4n : Nat) (a0_4c : Nat) (w : World) (R : Ending → World → Prop) : Prop :=
  newP w #[(Value.int .i64 a0_0), (Value.int .i64 a0_1), (Value.int .i64 a0_2), (Value.int .i64 a0_3), (Value.slice a0_4p a0_4n a0_4c)] 29 fun b1 w1 =>
  ∃ (cs1 : Array Value), cs1.size = 5 ∧ CellsAt w1 (⟨b1, 0, none⟩ : Addr) cs1.toList ∧
  (callP Try.prog 9 #[(Value.pointer none), (Value.agg cs1)] w1 (fun v1 w2 =>
      dT v1 fun vs1 =>
      optP (vs1[0]?) fun v2 =>
      dI .i64 v2 fun x1 =>
      optP (vs1[1]?) fun v3 =>
      dI .i64 v3 fun x2 =>
      callP Try.prog 11 #[(Value.pointer none)] w2 (fun v4 w4 =>
        dT v4 fun vs2 =>
        optP (vs2[0]?) fun v5 =>
        dI .i64 v5 fun x3 =>
        optP (vs2[1]?) fun v6 =>
        dA v6 fun cs2 =>
        optP (vs2[2]?) fun v7 =>
        dI .i64 v7 fun x4 =>
        newP w4 #[(Value.int .i64 0), (Value.int .i64 0), (Value.int .i64 0), (Value.int .i64 0), (Value.slice none 0 0)] 29 fun b2 w6 =>
        chk (decide (cs2.size = 5)) (
          Wr w6 (⟨b2, 0, none⟩ : Addr) cs2.toList ∧ ∀ w7, w7 = w6.setCells (⟨b2, 0, none⟩ : Addr).block (⟨b2, 0, none⟩ : Addr).off cs2.toList →
          (callP Try.prog 8 #[] w7 (fun v8 w8 =>
              dB v8 fun b3 =>
              cond b3 (
                cond (x2 == 1) (
                  cond (x4 == x2) (
                    cond (x3 == 0) (
                      callP Try.prog 13 #[(Value.pointer none)] w8 (fun v9 w10 =>
                        dI .i64 v9 fun x5 =>
                        cond (x5 == x2) (
                          callP Try.prog 14 #[(Value.pointer none)] w10 (fun v10 w12 =>
                          dI .i64 v10 fun x6 =>
                          R (.returned (Value.bool (x6 == 0))) w12) (fun ch w13 => R (.panicked ch) w13)) (
                          R (.returned (Value.bool false)) w10)) (fun ch w11 => R (.panicked ch) w11)) (
                      R (.returned (Value.bool false)) w8)) (
                    R (.returned (Value.bool false)) w8)) (
                  R (.returned (Value.bool false)) w8)) (
                R (.returned (Value.bool false)) w8)) (fun ch w9 => R (.panicked ch) w9)))) (fun ch w5 => R (.panicked ch) w5)) (fun ch w3 => R (.panicked ch) w3))
abbrev stopcocklaw19_GateNone.C (a0_0 : Int) (a0_1 : Int) (a0_2 : Int) (a0_3 : Int) (a0_4p : Option Addr) (a0_4n : Nat) (a0_4c : Nat) (w : World) (R : Ending → World → Prop) : Prop := Calls Try.prog 5 #[(Value.agg #[(Value.int .i64 a0_0), (Value.int .i64 a0_1), (Value.int .i64 a0_2), (Value.int .i64 a0_3), (Value.slice a0_4p a0_4n a0_4c)])] w R
noncomputable def stopcocklaw19_GateNone.code : Code := (Try.f5.body).getD .skip
noncomputable def stopcocklaw19_GateNone.sk (R : Ending → World → Prop) : Sk := .leaf
def stopcocklaw19_GateNone.owed (R : Ending → World → Prop) : Prop :=
  True
theorem stopcocklaw19_GateNone.pays (R : Ending → World → Prop) : stopcocklaw19_GateNone.owed R := trivial
set_option maxRecDepth 100000 in
theorem stopcocklaw19_GateNone.ok {a0_0 : Int} {a0_1 : Int} {a0_2 : Int} {a0_3 : Int} {a0_4p : Option Addr} {a0_4n : Nat} {a0_4c : Nat} {w : World} {R : Ending → World → Prop} (h : stopcocklaw19_GateNone.main a0_0 a0_1 a0_2 a0_3 a0_4p a0_4n a0_4c w R) : stopcocklaw19_GateNone.C a0_0 a0_1 a0_2 a0_3 a0_4p a0_4n a0_4c w R :=
  ev_ok cxok (c := cx) Try.func5 (code := stopcocklaw19_GateNone.code) (by kernel_rfl) [.tmp 2] (by kernel_rfl) 46 (by kernel_rfl) (stopcocklaw19_GateNone.sk R) (args := [(Value.agg #[(Value.int .i64 a0_0), (Value.int .i64 a0_1), (Value.int .i64 a0_2), (Value.int .i64 a0_3), (Value.slice a0_4p a0_4n a0_4c)])]) (Nat.le_of_ble_eq_true rfl) (by kernel_rfl) (o := stopcocklaw19_GateNone.owed R) (by kernel_rfl) (stopcocklaw19_GateNone.pays R) h

/-! ### stopcock/stopcocklaw19.GateFull: function 6 -/
def stopcocklaw19_GateFull.b2 (t1 : Int) (t2 : Nat) (t5 : Option Addr) (t9 : Int) (w : World) (R : Ending → World → Prop) (C2 : Int → Nat → Option Addr → Int → World → Prop) : Prop :=
  cond (decide (t9 < (IntKind.i64.wrap (Int.tmod t1 40)))) (
    ∃ (cs3 : Array Value), cs3.size = 5 ∧ CellsAt w (⟨t2, 0, none⟩ : Addr) cs3.toList ∧
    (callP Try.prog 9 #[(Value.pointer t5), (Value.agg cs3)] w (fun v8 w12 =>
        dT v8 fun vs2 =>
        optP (vs2[0]?) fun v9 =>
        dI .i64 v9 fun x4 =>
        optP (vs2[1]?) fun v10 =>
        dI .i64 v10 fun x5 =>
        callP Try.prog 11 #[(Value.pointer t5)] w12 (fun v11 w14 =>
          dT v11 fun vs3 =>
          optP (vs3[0]?) fun v12 =>
          dI .i64 v12 fun x6 =>
          optP (vs3[1]?) fun v13 =>
          dA v13 fun cs4 =>
          optP (vs3[2]?) fun v14 =>
          dI .i64 v14 fun x7 =>
          newP w14 #[(Value.int .i64 0), (Value.int .i64 0), (Value.int .i64 0), (Value.int .i64 0), (Value.slice none 0 0)] 29 fun b4 w16 =>
          chk (decide (cs4.size = 5)) (
            Wr w16 (⟨b4, 0, none⟩ : Addr) cs4.toList ∧ ∀ w17, w17 = w16.setCells (⟨b4, 0, none⟩ : Addr).block (⟨b4, 0, none⟩ : Addr).off cs4.toList →
            (cond (x5 != 12) (
                R (.returned (Value.bool false)) w17) (
                cond (x7 != 0) (
                  R (.returned (Value.bool false)) w17) (
                  cond (x6 != (IntKind.i64.wrap (t9 + 1))) (
                    R (.returned (Value.bool false)) w17) (
                    callP Try.prog 13 #[(Value.pointer t5)] w17 (fun v15 w18 =>
                      dI .i64 v15 fun x8 =>
                      cond (x8 != 0) (
                        R (.returned (Value.bool false)) w18) (
                        ∃ (cs5 : Array Value), cs5.size = 5 ∧ CellsAt w18 (⟨t2, 0, none⟩ : Addr) cs5.toList ∧
                        (callP Try.prog 9 #[(Value.pointer t5), (Value.agg cs5)] w18 (fun v16 w20 =>
                          dT v16 fun vs4 =>
                          optP (vs4[0]?) fun v17 =>
                          dI .i64 v17 fun x9 =>
                          optP (vs4[1]?) fun v18 =>
                          dI .i64 v18 fun x10 =>
                          cond (x10 != 0) (
                          R (.returned (Value.bool false)) w20) (
                          cond (x9 != (IntKind.i64.wrap (17 + t9))) (
                          R (.returned (Value.bool false)) w20) (
                          callP Try.prog 14 #[(Value.pointer t5)] w20 (fun v19 w22 =>
                          dI .i64 v19 fun x11 =>
                          cond (x11 != 16) (
                          R (.returned (Value.bool false)) w22) (
                          C2 t1 t2 t5 (IntKind.i64.wrap (t9 + 1)) w22)) (fun ch w23 => R (.panicked ch) w23)))) (fun ch w21 => R (.panicked ch) w21)))) (fun ch w19 => R (.panicked ch) w19))))))) (fun ch w15 => R (.panicked ch) w15)) (fun ch w13 => R (.panicked ch) w13))) (
    R (.returned (Value.bool true)) w)
def stopcocklaw19_GateFull.l2 (t1 : Int) (t2 : Nat) (t5 : Option Addr) (t9 : Int) (w : World) (R : Ending → World → Prop) : Prop :=
  ∃ (I : Int → Nat → Option Addr → Int → World → Prop) (m : Int → Nat → Option Addr → Int → World → Nat), I t1 t2 t5 t9 w ∧
  ∀ (t1 : Int) (t2 : Nat) (t5 : Option Addr) (t9 : Int) (w : World), I t1 t2 t5 t9 w →
  stopcocklaw19_GateFull.b2 t1 t2 t5 t9 w R (fun t1' t2' t5' t9' w' => I t1' t2' t5' t9' w' ∧ m t1' t2' t5' t9' w' < m t1 t2 t5 t9 w)
def stopcocklaw19_GateFull.k2 (t1 : Int) (t2 : Nat) (t5 : Option Addr) (w : World) (R : Ending → World → Prop) : Prop :=
  stopcocklaw19_GateFull.l2 t1 t2 t5 0 w R
def stopcocklaw19_GateFull.b1 (t1 : Int) (t2 : Nat) (t5 : Option Addr) (t6 : Int) (w : World) (R : Ending → World → Prop) (C1 : Int → Nat → Option Addr → Int → World → Prop) : Prop :=
  cond (decide (t6 ≤ 16)) (
    ∃ (cs2 : Array Value), cs2.size = 5 ∧ CellsAt w (⟨t2, 0, none⟩ : Addr) cs2.toList ∧
    (callP Try.prog 9 #[(Value.pointer t5), (Value.agg cs2)] w (fun v5 w10 =>
        dT v5 fun vs1 =>
        optP (vs1[0]?) fun v6 =>
        dI .i64 v6 fun x2 =>
        optP (vs1[1]?) fun v7 =>
        dI .i64 v7 fun x3 =>
        cond (x3 != 0) (
          R (.returned (Value.bool false)) w10) (
          cond (x2 != t6) (
            R (.returned (Value.bool false)) w10) (
            C1 t1 t2 t5 (IntKind.i64.wrap (t6 + 1)) w10))) (fun ch w11 => R (.panicked ch) w11))) (
    stopcocklaw19_GateFull.k2 t1 t2 t5 w R)
def stopcocklaw19_GateFull.l1 (t1 : Int) (t2 : Nat) (t5 : Option Addr) (t6 : Int) (w : World) (R : Ending → World → Prop) : Prop :=
  ∃ (I : Int → Nat → Option Addr → Int → World → Prop) (m : Int → Nat → Option Addr → Int → World → Nat), I t1 t2 t5 t6 w ∧
  ∀ (t1 : Int) (t2 : Nat) (t5 : Option Addr) (t6 : Int) (w : World), I t1 t2 t5 t6 w →
  stopcocklaw19_GateFull.b1 t1 t2 t5 t6 w R (fun t1' t2' t5' t6' w' => I t1' t2' t5' t6' w' ∧ m t1' t2' t5' t6' w' < m t1 t2 t5 t6 w)
def stopcocklaw19_GateFull.k1 (t1 : Int) (t2 : Nat) (t5 : Option Addr) (t28 : Bool) (w : World) (R : Ending → World → Prop) : Prop :=
  cond t28 (
    callP Try.prog 8 #[] w (fun v4 w8 =>
      dB v4 fun b3 =>
      cond b3 (
        R (.returned (Value.bool (!(Option.isNone t5)))) w8) (
        R (.returned (Value.bool false)) w8)) (fun ch w9 => R (.panicked ch) w9)) (
    stopcocklaw19_GateFull.l1 t1 t2 t5 1 w R)
def stopcocklaw19_GateFull.main (a0_0 : Int) (a0_1 : Int) (a0_2 : Int) (a0_3 : Int) (a0_4p : Option Addr) (a0_4n : Nat) (a0_4c : Nat) (a1 : Int) (w : World) (R : Ending → World → Prop) : Prop :=
  newP w #[(Value.int .i64 a0_0), (Value.int .i64 a0_1), (Value.int .i64 a0_2), (Value.int .i64 a0_3), (Value.slice a0_4p a0_4n a0_4c)] 29 fun b1 w1 =>
  callP Try.prog 7 #[] w1 (fun v1 w2 =>
    dP v1 fun p1 =>
    callP Try.prog 8 #[] w2 (fun v2 w4 =>
      dB v2 fun b2 =>
      cond (!b2) (
        stopcocklaw19_GateFull.k1 a1 b1 p1 true w4 R) (
        cond (Option.isNone p1) (
          stopcocklaw19_GateFull.k1 a1 b1 p1 true w4 R) (
          ∃ (cs1 : Array Value), cs1.size = 5 ∧ CellsAt w4 (⟨b1, 0, none⟩ : Addr) cs1.toList ∧
          (callP Try.prog 10 #[(Value.agg cs1)] w4 (fun v3 w6 =>
              dI .i64 v3 fun x1 =>
              stopcocklaw19_GateFull.k1 a1 b1 p1 (x1 != 0) w6 R) (fun ch w7 => R (.panicked ch) w7))))) (fun ch w5 => R (.panicked ch) w5)) (fun ch w3 => R (.panicked ch) w3)
abbrev stopcocklaw19_GateFull.C (a0_0 : Int) (a0_1 : Int) (a0_2 : Int) (a0_3 : Int) (a0_4p : Option Addr) (a0_4n : Nat) (a0_4c : Nat) (a1 : Int) (w : World) (R : Ending → World → Prop) : Prop := Calls Try.prog 6 #[(Value.agg #[(Value.int .i64 a0_0), (Value.int .i64 a0_1), (Value.int .i64 a0_2), (Value.int .i64 a0_3), (Value.slice a0_4p a0_4n a0_4c)]), (Value.int .u8 a1)] w R
noncomputable def stopcocklaw19_GateFull.code : Code := (Try.f6.body).getD .skip
noncomputable def stopcocklaw19_GateFull.sk (R : Ending → World → Prop) : Sk := (.seq .leaf (.seq .leaf (.seq (.cut [(1, .int .u8), (2, .blk), (5, .ptr), (28, .bool)] (fun (t1 : Int) (t2 : Nat) (t5 : Option Addr) (t28 : Bool) (w : World) => stopcocklaw19_GateFull.k1 t1 t2 t5 t28 w R) .leaf .leaf) (.cut [(1, .int .u8), (2, .blk), (5, .ptr)] (fun (t1 : Int) (t2 : Nat) (t5 : Option Addr) (w : World) => stopcocklaw19_GateFull.k2 t1 t2 t5 w R) (.seq .leaf (.block (.loop [(1, .int .u8), (2, .blk), (5, .ptr), (6, .int .i64)] (fun (t1 : Int) (t2 : Nat) (t5 : Option Addr) (t6 : Int) (w : World) => stopcocklaw19_GateFull.l1 t1 t2 t5 t6 w R) (fun (C1 : Int → Nat → Option Addr → Int → World → Prop) => .leaf)))) (.seq (.seq .leaf (.block (.loop [(1, .int .u8), (2, .blk), (5, .ptr), (9, .int .i64)] (fun (t1 : Int) (t2 : Nat) (t5 : Option Addr) (t9 : Int) (w : World) => stopcocklaw19_GateFull.l2 t1 t2 t5 t9 w R) (fun (C2 : Int → Nat → Option Addr → Int → World → Prop) => .leaf)))) .leaf)))))
def stopcocklaw19_GateFull.owed (R : Ending → World → Prop) : Prop :=
  (∀ (t1 : Int) (t2 : Nat) (t5 : Option Addr) (t28 : Bool) (w : World), stopcocklaw19_GateFull.k1 t1 t2 t5 t28 w R → stopcocklaw19_GateFull.k1 t1 t2 t5 t28 w R) ∧ (∀ (t1 : Int) (t2 : Nat) (t5 : Option Addr) (t6 : Int) (w : World), stopcocklaw19_GateFull.l1 t1 t2 t5 t6 w R → stopcocklaw19_GateFull.l1 t1 t2 t5 t6 w R) ∧ (∀ (C1 : Int → Nat → Option Addr → Int → World → Prop), True) ∧ (∀ (t1 : Int) (t2 : Nat) (t5 : Option Addr) (w : World), stopcocklaw19_GateFull.k2 t1 t2 t5 w R → stopcocklaw19_GateFull.k2 t1 t2 t5 w R) ∧ (∀ (t1 : Int) (t2 : Nat) (t5 : Option Addr) (t9 : Int) (w : World), stopcocklaw19_GateFull.l2 t1 t2 t5 t9 w R → stopcocklaw19_GateFull.l2 t1 t2 t5 t9 w R) ∧ (∀ (C2 : Int → Nat → Option Addr → Int → World → Prop), True) ∧ True
theorem stopcocklaw19_GateFull.pays (R : Ending → World → Prop) : stopcocklaw19_GateFull.owed R := ⟨(fun _ _ _ _ _ h => h), (fun _ _ _ _ _ h => h), (fun _ => trivial), (fun _ _ _ _ h => h), (fun _ _ _ _ _ h => h), (fun _ => trivial), trivial⟩
set_option maxRecDepth 100000 in
theorem stopcocklaw19_GateFull.ok {a0_0 : Int} {a0_1 : Int} {a0_2 : Int} {a0_3 : Int} {a0_4p : Option Addr} {a0_4n : Nat} {a0_4c : Nat} {a1 : Int} {w : World} {R : Ending → World → Prop} (h : stopcocklaw19_GateFull.main a0_0 a0_1 a0_2 a0_3 a0_4p a0_4n a0_4c a1 w R) : stopcocklaw19_GateFull.C a0_0 a0_1 a0_2 a0_3 a0_4p a0_4n a0_4c a1 w R :=
  ev_ok cxok (c := cx) Try.func6 (code := stopcocklaw19_GateFull.code) (by kernel_rfl) [.tmp 4] (by kernel_rfl) 106 (by kernel_rfl) (stopcocklaw19_GateFull.sk R) (args := [(Value.agg #[(Value.int .i64 a0_0), (Value.int .i64 a0_1), (Value.int .i64 a0_2), (Value.int .i64 a0_3), (Value.slice a0_4p a0_4n a0_4c)]), (Value.int .u8 a1)]) (Nat.le_of_ble_eq_true rfl) (by kernel_rfl) (o := stopcocklaw19_GateFull.owed R) (by kernel_rfl) (stopcocklaw19_GateFull.pays R) h

end Go.Proofs.Ytpbnjjjglbnnpaa.G

/- Statements of functions, and that their calls do what they say. Printed by wip/tool/dec.py. Conditions: none. -/
import Derived.Test.YthopiffhkldnhaaG0
namespace Go.Proofs.Ythopiffhkldnhaa.G
open Go.Dec
set_option linter.unusedVariables false

/-! ### stopcock/stopcocklaw16.StrandPlays: function 3 -/
def stopcocklaw16_StrandPlays.k1 (t2p : Option Addr) (t2n : Nat) (t2c : Nat) (t7 : Option Addr) (t9 : Option Addr) (t11 : Int) (t58 : Int) (t59 : Bool) (w : World) (R : Ending → World → Prop) (C1 : Option Addr → Nat → Nat → Option Addr → Option Addr → Int → World → Prop) : Prop :=
  callP Try.prog 16 #[(Value.pointer t7)] w (fun v19 w24 =>
    dT v19 fun vs5 =>
    optP (vs5[0]?) fun v20 =>
    dS v20 fun p3 n1 c1 =>
    optP (vs5[1]?) fun v21 =>
    dI .i64 v21 fun x15 =>
    callP Try.prog 18 #[(Value.pointer t9)] w24 (fun v22 w26 =>
      dS v22 fun p4 n2 c2 =>
      callP Try.prog 17 #[(Value.slice p3 n1 c1), (Value.slice p4 n2 c2)] w26 (fun v23 w28 =>
        dB v23 fun b7 =>
        cond (!b7) (
          R (.returned (Value.bool false)) w28) (
          optP t9 fun d2 =>
          ∃ (x16 : Int), w28.cell? (d2.add 3) = some (Value.int .i64 x16) ∧
          (cond (x15 != x16) (
              R (.returned (Value.bool false)) w28) (
              C1 t2p t2n t2c t7 t9 (IntKind.i64.wrap (t11 + 1)) w28)))) (fun ch w29 => R (.panicked ch) w29)) (fun ch w27 => R (.panicked ch) w27)) (fun ch w25 => R (.panicked ch) w25)
def stopcocklaw16_StrandPlays.b1 (t2p : Option Addr) (t2n : Nat) (t2c : Nat) (t7 : Option Addr) (t9 : Option Addr) (t11 : Int) (w : World) (R : Ending → World → Prop) (C1 : Option Addr → Nat → Nat → Option Addr → Option Addr → Int → World → Prop) : Prop :=
  cond (decide (t11 < ((t2n : Nat) : Int))) (
    cond (decide (t11 < 200)) (
      chk (decide (0 ≤ t11)) (
        chk (decide (t11 < ((t2n : Nat) : Int))) (
          optP t2p fun d1 =>
          ∃ (cs3 : Array Value), cs3.size = 2 ∧ CellsAt w (d1.add (t11.toNat * 2)) cs3.toList ∧
          (newP w #[(Value.int .i64 0), (Value.int .i64 0)] 35 fun b4 w10 =>
            chk (decide (cs3.size = 2)) (
              Wr w10 (⟨b4, 0, none⟩ : Addr) cs3.toList ∧ ∀ w11, w11 = w10.setCells (⟨b4, 0, none⟩ : Addr).block (⟨b4, 0, none⟩ : Addr).off cs3.toList →
              (∃ (x3 : Int), w11.cell? (⟨b4, 0, none⟩ : Addr) = some (Value.int .i64 x3) ∧
                (cond (decide (x3 < 4)) (
                    ∃ (x4 : Int), w11.cell? (⟨b4, 1, none⟩ : Addr) = some (Value.int .i64 x4) ∧
                    (callP Try.prog 10 #[(Value.pointer t7), (Value.int .i64 x4)] w11 (fun v9 w12 =>
                        dT v9 fun vs3 =>
                        optP (vs3[0]?) fun v10 =>
                        dC v10 fun r1 m1 =>
                        optP (vs3[1]?) fun v11 =>
                        dI .i64 v11 fun x5 =>
                        ∃ (x6 : Int), w12.cell? (⟨b4, 1, none⟩ : Addr) = some (Value.int .i64 x6) ∧
                        (callP Try.prog 11 #[(Value.pointer t9), (Value.int .i64 x6)] w12 (fun v12 w14 =>
                          dT v12 fun vs4 =>
                          optP (vs4[0]?) fun v13 =>
                          dC v13 fun r2 m2 =>
                          optP (vs4[1]?) fun v14 =>
                          dI .i64 v14 fun x7 =>
                          cond (!(fCmp .eql r1 r2 && fCmp .eql m1 m2)) (
                          R (.returned (Value.bool false)) w14) (
                          cond (x5 != x7) (
                          R (.returned (Value.bool false)) w14) (
                          stopcocklaw16_StrandPlays.k1 t2p t2n t2c t7 t9 t11 t11 (decide (t11 < 200)) w14 R C1))) (fun ch w15 => R (.panicked ch) w15))) (fun ch w13 => R (.panicked ch) w13))) (
                    ∃ (x8 : Int), w11.cell? (⟨b4, 0, none⟩ : Addr) = some (Value.int .i64 x8) ∧
                    (cond (x8 == 4) (
                        ∃ (x9 : Int), w11.drew.cell? (⟨b4, 1, none⟩ : Addr) = some (Value.int .i64 x9) ∧
                        (∃ (x10 : Int), w11.drew.cell? (⟨b4, 1, none⟩ : Addr) = some (Value.int .i64 x10) ∧
                          (callP Try.prog 12 #[(Value.pointer t7), (Value.int .i64 x9)] w11.drew (fun v15 w16 =>
                          dB v15 fun b5 =>
                          w16.cell? (⟨b4, 1, none⟩ : Addr) = some (Value.int .i64 x10) ∧
                          (callP Try.prog 13 #[(Value.pointer t9), (Value.int .i64 x10)] w16 (fun v16 w18 =>
                          dB v16 fun b6 =>
                          cond (!(b5 == b6)) (
                          R (.returned (Value.bool false)) w18) (
                          stopcocklaw16_StrandPlays.k1 t2p t2n t2c t7 t9 t11 t11 (decide (t11 < 200)) w18 R C1)) (fun ch w19 => R (.panicked ch) w19))) (fun ch w17 => R (.panicked ch) w17)))) (
                        ∃ (x11 : Int), w11.drew.cell? (⟨b4, 1, none⟩ : Addr) = some (Value.int .i64 x11) ∧
                        (∃ (x12 : Int), w11.drew.cell? (⟨b4, 1, none⟩ : Addr) = some (Value.int .i64 x12) ∧
                          (callP Try.prog 14 #[(Value.pointer t7), (Value.int .i64 x11)] w11.drew (fun v17 w20 =>
                          dI .i64 v17 fun x13 =>
                          w20.cell? (⟨b4, 1, none⟩ : Addr) = some (Value.int .i64 x12) ∧
                          (callP Try.prog 15 #[(Value.pointer t9), (Value.int .i64 x12)] w20 (fun v18 w22 =>
                          dI .i64 v18 fun x14 =>
                          cond (x13 != x14) (
                          R (.returned (Value.bool false)) w22) (
                          stopcocklaw16_StrandPlays.k1 t2p t2n t2c t7 t9 t11 t11 (decide (t11 < 200)) w22 R C1)) (fun ch w23 => R (.panicked ch) w23))) (fun ch w21 => R (.panicked ch) w21))))))))))))) (
      R (.returned (Value.bool true)) w)) (
    R (.returned (Value.bool true)) w)
def stopcocklaw16_StrandPlays.l1 (t2p : Option Addr) (t2n : Nat) (t2c : Nat) (t7 : Option Addr) (t9 : Option Addr) (t11 : Int) (w : World) (R : Ending → World → Prop) : Prop :=
  ∃ (I : Option Addr → Nat → Nat → Option Addr → Option Addr → Int → World → Prop) (m : Option Addr → Nat → Nat → Option Addr → Option Addr → Int → World → Nat), I t2p t2n t2c t7 t9 t11 w ∧
  ∀ (t2p : Option Addr) (t2n : Nat) (t2c : Nat) (t7 : Option Addr) (t9 : Option Addr) (t11 : Int) (w : World), I t2p t2n t2c t7 t9 t11 w →
  stopcocklaw16_StrandPlays.b1 t2p t2n t2c t7 t9 t11 w R (fun t2p' t2n' t2c' t7' t9' t11' w' => I t2p' t2n' t2c' t7' t9' t11' w' ∧ m t2p' t2n' t2c' t7' t9' t11' w' < m t2p t2n t2c t7 t9 t11 w)
def stopcocklaw16_StrandPlays.main (a0_0 : Int) (a0_1 : Int) (a1p : Option Addr) (a1n : Nat) (a1c : Nat) (a2p : Option Addr) (a2n : Nat) (a2c : Nat) (w : World) (R : Ending → World → Prop) : Prop :=
  newP w #[(Value.int .i64 a0_0), (Value.int .i64 a0_1)] 23 fun b1 w1 =>
  ∃ (cs1 : Array Value), cs1.size = 2 ∧ CellsAt w1 (⟨b1, 0, none⟩ : Addr) cs1.toList ∧
  (callP Try.prog 7 #[(Value.agg cs1), (Value.slice a1p a1n a1c)] w1 (fun v1 w2 =>
      dT v1 fun vs1 =>
      optP (vs1[0]?) fun v2 =>
      dP v2 fun p1 =>
      optP (vs1[1]?) fun v3 =>
      dI .i64 v3 fun x1 =>
      ∃ (cs2 : Array Value), cs2.size = 2 ∧ CellsAt w2 (⟨b1, 0, none⟩ : Addr) cs2.toList ∧
      (callP Try.prog 8 #[(Value.agg cs2), (Value.slice a1p a1n a1c)] w2 (fun v4 w4 =>
          dT v4 fun vs2 =>
          optP (vs2[0]?) fun v5 =>
          dP v5 fun p2 =>
          optP (vs2[1]?) fun v6 =>
          dI .i64 v6 fun x2 =>
          cond (x2 != 0) (
            callP Try.prog 9 #[] w4 (fun v7 w6 =>
              dB v7 fun b2 =>
              cond b2 (
                cond (x1 == x2) (
                  R (.returned (Value.bool (Option.isNone p1))) w6) (
                  R (.returned (Value.bool false)) w6)) (
                R (.returned (Value.bool false)) w6)) (fun ch w7 => R (.panicked ch) w7)) (
            callP Try.prog 9 #[] w4 (fun v8 w8 =>
              dB v8 fun b3 =>
              cond (!b3) (
                R (.returned (Value.bool false)) w8) (
                cond (x1 != 0) (
                  R (.returned (Value.bool false)) w8) (
                  cond (Option.isNone p1) (
                    R (.returned (Value.bool false)) w8) (
                    stopcocklaw16_StrandPlays.l1 a2p a2n a2c p1 p2 0 w8 R)))) (fun ch w9 => R (.panicked ch) w9))) (fun ch w5 => R (.panicked ch) w5))) (fun ch w3 => R (.panicked ch) w3))
abbrev stopcocklaw16_StrandPlays.C (a0_0 : Int) (a0_1 : Int) (a1p : Option Addr) (a1n : Nat) (a1c : Nat) (a2p : Option Addr) (a2n : Nat) (a2c : Nat) (w : World) (R : Ending → World → Prop) : Prop := Calls Try.prog 3 #[(Value.agg #[(Value.int .i64 a0_0), (Value.int .i64 a0_1)]), (Value.slice a1p a1n a1c), (Value.slice a2p a2n a2c)] w R
noncomputable def stopcocklaw16_StrandPlays.code : Code := (Try.f3.body).getD .skip
noncomputable def stopcocklaw16_StrandPlays.sk (R : Ending → World → Prop) : Sk := (.seq .leaf (.seq .leaf (.seq .leaf (.seq .leaf (.seq .leaf (.seq (.seq .leaf (.block (.loop [(2, .slice), (7, .ptr), (9, .ptr), (11, .int .i64)] (fun (t2p : Option Addr) (t2n : Nat) (t2c : Nat) (t7 : Option Addr) (t9 : Option Addr) (t11 : Int) (w : World) => stopcocklaw16_StrandPlays.l1 t2p t2n t2c t7 t9 t11 w R) (fun (C1 : Option Addr → Nat → Nat → Option Addr → Option Addr → Int → World → Prop) => (.seq .leaf (.seq (.block (.seq .leaf (.cut [(2, .slice), (7, .ptr), (9, .ptr), (11, .int .i64), (58, .int .i64), (59, .bool)] (fun (t2p : Option Addr) (t2n : Nat) (t2c : Nat) (t7 : Option Addr) (t9 : Option Addr) (t11 : Int) (t58 : Int) (t59 : Bool) (w : World) => stopcocklaw16_StrandPlays.k1 t2p t2n t2c t7 t9 t11 t58 t59 w R C1) .leaf .leaf))) .leaf)))))) .leaf))))))
def stopcocklaw16_StrandPlays.owed (R : Ending → World → Prop) : Prop :=
  (∀ (t2p : Option Addr) (t2n : Nat) (t2c : Nat) (t7 : Option Addr) (t9 : Option Addr) (t11 : Int) (w : World), stopcocklaw16_StrandPlays.l1 t2p t2n t2c t7 t9 t11 w R → stopcocklaw16_StrandPlays.l1 t2p t2n t2c t7 t9 t11 w R) ∧ (∀ (C1 : Option Addr → Nat → Nat → Option Addr → Option Addr → Int → World → Prop), (∀ (t2p : Option Addr) (t2n : Nat) (t2c : Nat) (t7 : Option Addr) (t9 : Option Addr) (t11 : Int) (t58 : Int) (t59 : Bool) (w : World), stopcocklaw16_StrandPlays.k1 t2p t2n t2c t7 t9 t11 t58 t59 w R C1 → stopcocklaw16_StrandPlays.k1 t2p t2n t2c t7 t9 t11 t58 t59 w R C1) ∧ True) ∧ True
theorem stopcocklaw16_StrandPlays.pays (R : Ending → World → Prop) : stopcocklaw16_StrandPlays.owed R := ⟨(fun _ _ _ _ _ _ _ h => h), (fun _ => ⟨(fun _ _ _ _ _ _ _ _ _ h => h), trivial⟩), trivial⟩
set_option maxRecDepth 100000 in
theorem stopcocklaw16_StrandPlays.ok {a0_0 : Int} {a0_1 : Int} {a1p : Option Addr} {a1n : Nat} {a1c : Nat} {a2p : Option Addr} {a2n : Nat} {a2c : Nat} {w : World} {R : Ending → World → Prop} (h : stopcocklaw16_StrandPlays.main a0_0 a0_1 a1p a1n a1c a2p a2n a2c w R) : stopcocklaw16_StrandPlays.C a0_0 a0_1 a1p a1n a1c a2p a2n a2c w R :=
  ev_ok cxok (c := cx) Try.func3 (code := stopcocklaw16_StrandPlays.code) (by kernel_rfl) [.tmp 6] (by kernel_rfl) 133 (by kernel_rfl) (stopcocklaw16_StrandPlays.sk R) (args := [(Value.agg #[(Value.int .i64 a0_0), (Value.int .i64 a0_1)]), (Value.slice a1p a1n a1c), (Value.slice a2p a2n a2c)]) (Nat.le_of_ble_eq_true rfl) (by kernel_rfl) (o := stopcocklaw16_StrandPlays.owed R) (by kernel_rfl) (stopcocklaw16_StrandPlays.pays R) h

/-! ### stopcock/strand.New: function 7 -/
def strand_New.b1 (t7 : Nat) (t19p : Option Addr) (t19n : Nat) (t19c : Nat) (t20 : Int) (t21 : Int) (w : World) (R : Ending → World → Prop) (C1 : Nat → Option Addr → Nat → Nat → Int → Int → World → Prop) : Prop :=
  cond (decide (t21 < t20)) (
    chk (decide (0 ≤ t21)) (
      chk (decide (t21 < ((t19n : Nat) : Int))) (
        optP t19p fun d1 =>
        ∃ (x2 : Int), w.cell? (d1.add (t21.toNat * 1)) = some (Value.int .i64 x2) ∧
        (callP Try.prog 14 #[(Value.pointer (some (⟨t7, 0, none⟩ : Addr))), (Value.int .i64 x2)] w (fun v2 w5 =>
            dI .i64 v2 fun x3 =>
            cond (x3 != 0) (
              R (.returned (Value.tuple #[(Value.pointer none), (Value.int .i64 1)])) w5) (
              C1 t7 t19p t19n t19c t20 (IntKind.i64.wrap (t21 + 1)) w5)) (fun ch w6 => R (.panicked ch) w6))))) (
    R (.returned (Value.tuple #[(Value.pointer (some (⟨t7, 0, none⟩ : Addr))), (Value.int .i64 0)])) w)
def strand_New.l1 (t7 : Nat) (t19p : Option Addr) (t19n : Nat) (t19c : Nat) (t20 : Int) (t21 : Int) (w : World) (R : Ending → World → Prop) : Prop :=
  ∃ (I : Nat → Option Addr → Nat → Nat → Int → Int → World → Prop) (m : Nat → Option Addr → Nat → Nat → Int → Int → World → Nat), I t7 t19p t19n t19c t20 t21 w ∧
  ∀ (t7 : Nat) (t19p : Option Addr) (t19n : Nat) (t19c : Nat) (t20 : Int) (t21 : Int) (w : World), I t7 t19p t19n t19c t20 t21 w →
  strand_New.b1 t7 t19p t19n t19c t20 t21 w R (fun t7' t19p' t19n' t19c' t20' t21' w' => I t7' t19p' t19n' t19c' t20' t21' w' ∧ m t7' t19p' t19n' t19c' t20' t21' w' < m t7 t19p t19n t19c t20 t21 w)
def strand_New.main (a0_0 : Int) (a0_1 : Int) (a1p : Option Addr) (a1n : Nat) (a1c : Nat) (w : World) (R : Ending → World → Prop) : Prop :=
  newP w #[(Value.int .i64 a0_0), (Value.int .i64 a0_1)] 23 fun b1 w1 =>
  ∃ (cs1 : Array Value), cs1.size = 2 ∧ CellsAt w1 (⟨b1, 0, none⟩ : Addr) cs1.toList ∧
  (callP Try.prog 21 #[(Value.agg cs1)] w1 (fun v1 w2 =>
      dI .i64 v1 fun x1 =>
      cond (x1 != 0) (
        R (.returned (Value.tuple #[(Value.pointer none), (Value.int .i64 x1)])) w2) (
        ∃ (cs2 : Array Value), cs2.size = 2 ∧ CellsAt w2 (⟨b1, 0, none⟩ : Addr) cs2.toList ∧
        (optP (Instr.fill (fun i => [(0, 2), (2, 1), (3, 1), (4, 1)].toArray[i]?) #[(Value.int .i64 0), (Value.int .i64 0), (Value.slice none 0 0), (Value.int .i64 0), (Value.int .i64 0)] [(0, (Value.agg cs2)), (2, (Value.int .i64 (-1)))]) fun cs3 =>
          newP w2 cs3 57 fun b2 w4 =>
          strand_New.l1 b2 a1p a1n a1c ((a1n : Nat) : Int) 0 w4 R))) (fun ch w3 => R (.panicked ch) w3))
abbrev strand_New.C (a0_0 : Int) (a0_1 : Int) (a1p : Option Addr) (a1n : Nat) (a1c : Nat) (w : World) (R : Ending → World → Prop) : Prop := Calls Try.prog 7 #[(Value.agg #[(Value.int .i64 a0_0), (Value.int .i64 a0_1)]), (Value.slice a1p a1n a1c)] w R
noncomputable def strand_New.code : Code := (Try.f7.body).getD .skip
noncomputable def strand_New.sk (R : Ending → World → Prop) : Sk := (.seq .leaf (.seq .leaf (.seq .leaf (.seq (.seq .leaf (.block (.loop [(7, .blk), (19, .slice), (20, .int .i64), (21, .int .i64)] (fun (t7 : Nat) (t19p : Option Addr) (t19n : Nat) (t19c : Nat) (t20 : Int) (t21 : Int) (w : World) => strand_New.l1 t7 t19p t19n t19c t20 t21 w R) (fun (C1 : Nat → Option Addr → Nat → Nat → Int → Int → World → Prop) => .leaf)))) .leaf))))
def strand_New.owed (R : Ending → World → Prop) : Prop :=
  (∀ (t7 : Nat) (t19p : Option Addr) (t19n : Nat) (t19c : Nat) (t20 : Int) (t21 : Int) (w : World), strand_New.l1 t7 t19p t19n t19c t20 t21 w R → strand_New.l1 t7 t19p t19n t19c t20 t21 w R) ∧ (∀ (C1 : Nat → Option Addr → Nat → Nat → Int → Int → World → Prop), True) ∧ True
theorem strand_New.pays (R : Ending → World → Prop) : strand_New.owed R := ⟨(fun _ _ _ _ _ _ _ h => h), (fun _ => trivial), trivial⟩
set_option maxRecDepth 100000 in
theorem strand_New.ok {a0_0 : Int} {a0_1 : Int} {a1p : Option Addr} {a1n : Nat} {a1c : Nat} {w : World} {R : Ending → World → Prop} (h : strand_New.main a0_0 a0_1 a1p a1n a1c w R) : strand_New.C a0_0 a0_1 a1p a1n a1c w R :=
  ev_ok cxok (c := cx) Try.func7 (code := strand_New.code) (by kernel_rfl) [.tmp 4, .tmp 5] (by kernel_rfl) 32 (by kernel_rfl) (strand_New.sk R) (args := [(Value.agg #[(Value.int .i64 a0_0), (Value.int .i64 a0_1)]), (Value.slice a1p a1n a1c)]) (Nat.le_of_ble_eq_true rfl) (by kernel_rfl) (o := strand_New.owed R) (by kernel_rfl) (strand_New.pays R) h

/-! ### stopcock/stopcockref16.New: function 8 -/
def stopcockref16_New.b1 (t1p : Option Addr) (t1n : Nat) (t1c : Nat) (t6 : Nat) (t7 : Int) (w : World) (R : Ending → World → Prop) (C1 : Option Addr → Nat → Nat → Nat → Int → World → Prop) : Prop :=
  cond (decide (t7 < ((t1n : Nat) : Int))) (
    chk (decide (0 ≤ t7)) (
      chk (decide (t7 < ((t1n : Nat) : Int))) (
        optP t1p fun d1 =>
        ∃ (x2 : Int), w.cell? (d1.add (t7.toNat * 1)) = some (Value.int .i64 x2) ∧
        (callP Try.prog 15 #[(Value.pointer (some (⟨t6, 0, none⟩ : Addr))), (Value.int .i64 x2)] w (fun v2 w6 =>
            dI .i64 v2 fun x3 =>
            cond (x3 != 0) (
              R (.returned (Value.tuple #[(Value.pointer none), (Value.int .i64 1)])) w6) (
              C1 t1p t1n t1c t6 (IntKind.i64.wrap (t7 + 1)) w6)) (fun ch w7 => R (.panicked ch) w7))))) (
    R (.returned (Value.tuple #[(Value.pointer (some (⟨t6, 0, none⟩ : Addr))), (Value.int .i64 0)])) w)
def stopcockref16_New.l1 (t1p : Option Addr) (t1n : Nat) (t1c : Nat) (t6 : Nat) (t7 : Int) (w : World) (R : Ending → World → Prop) : Prop :=
  ∃ (I : Option Addr → Nat → Nat → Nat → Int → World → Prop) (m : Option Addr → Nat → Nat → Nat → Int → World → Nat), I t1p t1n t1c t6 t7 w ∧
  ∀ (t1p : Option Addr) (t1n : Nat) (t1c : Nat) (t6 : Nat) (t7 : Int) (w : World), I t1p t1n t1c t6 t7 w →
  stopcockref16_New.b1 t1p t1n t1c t6 t7 w R (fun t1p' t1n' t1c' t6' t7' w' => I t1p' t1n' t1c' t6' t7' w' ∧ m t1p' t1n' t1c' t6' t7' w' < m t1p t1n t1c t6 t7 w)
def stopcockref16_New.main (a0_0 : Int) (a0_1 : Int) (a1p : Option Addr) (a1n : Nat) (a1c : Nat) (w : World) (R : Ending → World → Prop) : Prop :=
  newP w #[(Value.int .i64 a0_0), (Value.int .i64 a0_1)] 23 fun b1 w1 =>
  ∃ (cs1 : Array Value), cs1.size = 2 ∧ CellsAt w1 (⟨b1, 0, none⟩ : Addr) cs1.toList ∧
  (callP Try.prog 22 #[(Value.agg cs1)] w1 (fun v1 w2 =>
      dB v1 fun b2 =>
      cond (!b2) (
        R (.returned (Value.tuple #[(Value.pointer none), (Value.int .i64 1)])) w2) (
        ∃ (cs2 : Array Value), cs2.size = 2 ∧ CellsAt w2.drew (⟨b1, 0, none⟩ : Addr) cs2.toList ∧
        (∃ (x1 : Int), w2.drew.cell? (⟨b1, 0, none⟩ : Addr) = some (Value.int .i64 x1) ∧
          (chk (decide (0 ≤ x1)) (
              chk (decide (x1 ≤ x1)) (
                chk (decide ((1 : Int) * x1 ≤ 281474976710656 ∧ x1 ≤ 9223372036854775807)) (
                  newP w2.drew (madeCells #[(Value.bool false)] (x1.toNat * 1)) 4 fun b3 w4 =>
                  chk (decide (cs2.size = 2)) (
                    CellsAt w4 (⟨b1, 0, none⟩ : Addr) cs2.toList ∧
                    (optP (Instr.fill (fun i => [(0, 2), (2, 1), (3, 1), (4, 1)].toArray[i]?) #[(Value.int .i64 0), (Value.int .i64 0), (Value.slice none 0 0), (Value.int .i64 0), (Value.int .i64 0)] [(0, (Value.agg cs2)), (1, (Value.slice (some ⟨b3, 0, none⟩) x1.toNat x1.toNat)), (2, (Value.int .i64 (-1)))]) fun cs3 =>
                      newP w4 cs3 47 fun b4 w5 =>
                      stopcockref16_New.l1 a1p a1n a1c b4 0 w5 R))))))))) (fun ch w3 => R (.panicked ch) w3))
abbrev stopcockref16_New.C (a0_0 : Int) (a0_1 : Int) (a1p : Option Addr) (a1n : Nat) (a1c : Nat) (w : World) (R : Ending → World → Prop) : Prop := Calls Try.prog 8 #[(Value.agg #[(Value.int .i64 a0_0), (Value.int .i64 a0_1)]), (Value.slice a1p a1n a1c)] w R
noncomputable def stopcockref16_New.code : Code := (Try.f8.body).getD .skip
noncomputable def stopcockref16_New.sk (R : Ending → World → Prop) : Sk := (.seq .leaf (.seq .leaf (.seq .leaf (.seq (.seq .leaf (.block (.loop [(1, .slice), (6, .blk), (7, .int .i64)] (fun (t1p : Option Addr) (t1n : Nat) (t1c : Nat) (t6 : Nat) (t7 : Int) (w : World) => stopcockref16_New.l1 t1p t1n t1c t6 t7 w R) (fun (C1 : Option Addr → Nat → Nat → Nat → Int → World → Prop) => .leaf)))) .leaf))))
def stopcockref16_New.owed (R : Ending → World → Prop) : Prop :=
  (∀ (t1p : Option Addr) (t1n : Nat) (t1c : Nat) (t6 : Nat) (t7 : Int) (w : World), stopcockref16_New.l1 t1p t1n t1c t6 t7 w R → stopcockref16_New.l1 t1p t1n t1c t6 t7 w R) ∧ (∀ (C1 : Option Addr → Nat → Nat → Nat → Int → World → Prop), True) ∧ True
theorem stopcockref16_New.pays (R : Ending → World → Prop) : stopcockref16_New.owed R := ⟨(fun _ _ _ _ _ _ h => h), (fun _ => trivial), trivial⟩
set_option maxRecDepth 100000 in
theorem stopcockref16_New.ok {a0_0 : Int} {a0_1 : Int} {a1p : Option Addr} {a1n : Nat} {a1c : Nat} {w : World} {R : Ending → World → Prop} (h : stopcockref16_New.main a0_0 a0_1 a1p a1n a1c w R) : stopcockref16_New.C a0_0 a0_1 a1p a1n a1c w R :=
  ev_ok cxok (c := cx) Try.func8 (code := stopcockref16_New.code) (by kernel_rfl) [.tmp 4, .tmp 5] (by kernel_rfl) 31 (by kernel_rfl) (stopcockref16_New.sk R) (args := [(Value.agg #[(Value.int .i64 a0_0), (Value.int .i64 a0_1)]), (Value.slice a1p a1n a1c)]) (Nat.le_of_ble_eq_true rfl) (by kernel_rfl) (o := stopcockref16_New.owed R) (by kernel_rfl) (stopcockref16_New.pays R) h

/-! ### stopcock/stopcocklaw16.awake: function 9 -/
def stopcocklaw16_awake.main (w : World) (R : Ending → World → Prop) : Prop :=
  newP w #[(Value.int .i64 4), (Value.int .i64 1)] 3 fun b1 w1 =>
  callP Try.prog 7 #[(Value.agg #[(Value.int .i64 6), (Value.int .i64 2)]), (Value.slice (some ⟨b1, 0, none⟩) 2 2)] w1 (fun v1 w2 =>
    dT v1 fun vs1 =>
    optP (vs1[0]?) fun v2 =>
    dP v2 fun p1 =>
    optP (vs1[1]?) fun v3 =>
    dI .i64 v3 fun x1 =>
    cond (x1 != 0) (
      R (.returned (Value.bool false)) w2) (
      cond (Option.isNone p1) (
        R (.returned (Value.bool false)) w2) (
        callP Try.prog 10 #[(Value.pointer p1), (Value.int .i64 1)] w2 (fun v4 w4 =>
          dT v4 fun vs2 =>
          optP (vs2[0]?) fun v5 =>
          dC v5 fun r1 m1 =>
          optP (vs2[1]?) fun v6 =>
          dI .i64 v6 fun x2 =>
          callP Try.prog 16 #[(Value.pointer p1)] w4 (fun v7 w6 =>
            dT v7 fun vs3 =>
            optP (vs3[0]?) fun v8 =>
            dS v8 fun p2 n1 c1 =>
            optP (vs3[1]?) fun v9 =>
            dI .i64 v9 fun x3 =>
            cond (x2 == 0) (
              cond (fCmp .eql r1 4607182418800017408 && fCmp .eql m1 0) (
                cond (((n1 : Nat) : Int) == 1) (
                  chk (decide (0 < ((n1 : Nat) : Int))) (
                    optP p2 fun d1 =>
                    ∃ (x4 : Int), w6.cell? d1 = some (Value.int .i64 x4) ∧
                    (cond (x4 == 4) (
                        cond (x3 == 1) (
                          callP Try.prog 12 #[(Value.pointer p1), (Value.int .i64 5)] w6 (fun v10 w8 =>
                          dB v10 fun b2 =>
                          R (.returned (Value.bool b2)) w8) (fun ch w9 => R (.panicked ch) w9)) (
                          R (.returned (Value.bool false)) w6)) (
                        R (.returned (Value.bool false)) w6)))) (
                  R (.returned (Value.bool false)) w6)) (
                R (.returned (Value.bool false)) w6)) (
              R (.returned (Value.bool false)) w6)) (fun ch w7 => R (.panicked ch) w7)) (fun ch w5 => R (.panicked ch) w5)))) (fun ch w3 => R (.panicked ch) w3)
abbrev stopcocklaw16_awake.C (w : World) (R : Ending → World → Prop) : Prop := Calls Try.prog 9 #[] w R
noncomputable def stopcocklaw16_awake.code : Code := (Try.f9.body).getD .skip
noncomputable def stopcocklaw16_awake.sk (R : Ending → World → Prop) : Sk := .leaf
def stopcocklaw16_awake.owed (R : Ending → World → Prop) : Prop :=
  True
theorem stopcocklaw16_awake.pays (R : Ending → World → Prop) : stopcocklaw16_awake.owed R := trivial
set_option maxRecDepth 100000 in
theorem stopcocklaw16_awake.ok {w : World} {R : Ending → World → Prop} (h : stopcocklaw16_awake.main  w R) : stopcocklaw16_awake.C  w R :=
  ev_ok cxok (c := cx) Try.func9 (code := stopcocklaw16_awake.code) (by kernel_rfl) [.tmp 0] (by kernel_rfl) 54 (by kernel_rfl) (stopcocklaw16_awake.sk R) (args := []) (Nat.le_of_ble_eq_true rfl) (by kernel_rfl) (o := stopcocklaw16_awake.owed R) (by kernel_rfl) (stopcocklaw16_awake.pays R) h

/-! ### (*stopcock/strand.Strand).Next: function 10 -/
def strand_Strand_Next.k2 (t0 : Option Addr) (w : World) (R : Ending → World → Prop) : Prop :=
  optP t0 fun d7 =>
  ∃ (x2 : Int), w.drew.cell? (d7.add 3) = some (Value.int .i64 x2) ∧
  (optP t0 fun d8 =>
    ∃ (x3 : Int), w.drew.cell? (d8.add 1) = some (Value.int .i64 x3) ∧
    (optP t0 fun d9 =>
      ∃ (x4 : Int), w.drew.cell? (d9.add 4) = some (Value.int .i64 x4) ∧
      (optP t0 fun d10 =>
        ∃ (x5 : Int), w.drew.cell? (d10.add 1) = some (Value.int .i64 x5) ∧
        (callP Try.prog 25 #[(Value.int .i64 (IntKind.i64.wrap ((IntKind.i64.wrap (x2 * x3)) + x4))), (Value.int .i64 x5)] w.drew (fun v4 w10 =>
            dT v4 fun vs1 =>
            optP (vs1[0]?) fun v5 =>
            dC v5 fun r1 m1 =>
            optP (vs1[1]?) fun v6 =>
            dI .i64 v6 fun x6 =>
            optP t0 fun d11 =>
            ∃ (x7 : Int), w10.cell? (d11.add 4) = some (Value.int .i64 x7) ∧
            (optP t0 fun d12 =>
              (w10.cell? (d12.add 4)).isSome = true ∧ w10.frozen? (d12.add 4) = false ∧ ∀ w12, w12 = w10.setCell (d12.add 4) (Value.int .i64 (IntKind.i64.wrap (x7 + 1))) →
              (R (.returned (Value.tuple #[(Value.complex .f64 r1 m1), (Value.int .i64 0)])) w12))) (fun ch w11 => R (.panicked ch) w11)))))
def strand_Strand_Next.k1 (t0 : Option Addr) (t1 : Int) (t8 : Bool) (w : World) (R : Ending → World → Prop) : Prop :=
  cond t8 (
    R (.returned (Value.tuple #[(Value.complex .f64 0 0), (Value.int .i64 1)])) w) (
    callP Try.prog 12 #[(Value.pointer t0), (Value.int .i64 t1)] w (fun v1 w1 =>
      dB v1 fun b1 =>
      cond (!b1) (
        R (.returned (Value.tuple #[(Value.complex .f64 0 0), (Value.int .i64 9)])) w1) (
        callP Try.prog 23 #[(Value.pointer t0)] w1 (fun v2 w3 =>
          dB v2 fun b2 =>
          cond b2 (
            optP t0 fun d1 =>
            ∃ (p1 : Option Addr) (n1 : Nat) (c1 : Nat), w3.drew.cell? (d1.add 2) = some (Value.slice p1 n1 c1) ∧
            (chk (decide (0 < ((n1 : Nat) : Int))) (
                optP p1 fun d2 =>
                ∃ (x1 : Int), w3.drew.cell? d2 = some (Value.int .i64 x1) ∧
                (optP t0 fun d3 =>
                  ∃ (p2 : Option Addr) (n2 : Nat) (c2 : Nat), w3.drew.cell? (d3.add 2) = some (Value.slice p2 n2 c2) ∧
                  (chk (decide (1 ≤ ((n2 : Nat) : Int))) (
                      callP Try.prog 24 #[(Value.slice (slA p2 c2 1 1) (n2 - 1) (c2 - 1))] w3.drew (fun v3 w5 =>
                        dS v3 fun p3 n3 c3 =>
                        w5.cell? d2 = some (Value.int .i64 x1) ∧
                        (w5.cell? (d1.add 2) = some (Value.slice p1 n1 c1) ∧
                          (optP t0 fun d4 =>
                          (w5.cell? (d4.add 3)).isSome = true ∧ w5.frozen? (d4.add 3) = false ∧ ∀ w7, w7 = w5.setCell (d4.add 3) (Value.int .i64 x1) →
                          (optP t0 fun d5 =>
                          (w7.cell? (d5.add 4)).isSome = true ∧ w7.frozen? (d5.add 4) = false ∧ ∀ w8, w8 = w7.setCell (d5.add 4) (Value.int .i64 0) →
                          (optP t0 fun d6 =>
                          (w8.cell? (d6.add 2)).isSome = true ∧ w8.frozen? (d6.add 2) = false ∧ ∀ w9, w9 = w8.setCell (d6.add 2) (Value.slice p3 n3 c3) →
                          (strand_Strand_Next.k2 t0 w9 R)))))) (fun ch w6 => R (.panicked ch) w6))))))) (
            strand_Strand_Next.k2 t0 w3 R)) (fun ch w4 => R (.panicked ch) w4))) (fun ch w2 => R (.panicked ch) w2))
def strand_Strand_Next.main (a0 : Option Addr) (a1 : Int) (w : World) (R : Ending → World → Prop) : Prop :=
  cond (Option.isNone a0) (
    strand_Strand_Next.k1 a0 a1 true w R) (
    strand_Strand_Next.k1 a0 a1 (decide (a1 < 0)) w R)
abbrev strand_Strand_Next.C (a0 : Option Addr) (a1 : Int) (w : World) (R : Ending → World → Prop) : Prop := Calls Try.prog 10 #[(Value.pointer a0), (Value.int .i64 a1)] w R
noncomputable def strand_Strand_Next.code : Code := (Try.f10.body).getD .skip
noncomputable def strand_Strand_Next.sk (R : Ending → World → Prop) : Sk := (.seq .leaf (.cut [(0, .ptr)] (fun (t0 : Option Addr) (w : World) => strand_Strand_Next.k2 t0 w R) (.block (.cut [(0, .ptr), (1, .int .i64), (8, .bool)] (fun (t0 : Option Addr) (t1 : Int) (t8 : Bool) (w : World) => strand_Strand_Next.k1 t0 t1 t8 w R) .leaf .leaf)) .leaf))
def strand_Strand_Next.owed (R : Ending → World → Prop) : Prop :=
  (∀ (t0 : Option Addr) (t1 : Int) (t8 : Bool) (w : World), strand_Strand_Next.k1 t0 t1 t8 w R → strand_Strand_Next.k1 t0 t1 t8 w R) ∧ (∀ (t0 : Option Addr) (w : World), strand_Strand_Next.k2 t0 w R → strand_Strand_Next.k2 t0 w R) ∧ True
theorem strand_Strand_Next.pays (R : Ending → World → Prop) : strand_Strand_Next.owed R := ⟨(fun _ _ _ _ h => h), (fun _ _ h => h), trivial⟩
set_option maxRecDepth 100000 in
theorem strand_Strand_Next.ok {a0 : Option Addr} {a1 : Int} {w : World} {R : Ending → World → Prop} (h : strand_Strand_Next.main a0 a1 w R) : strand_Strand_Next.C a0 a1 w R :=
  ev_ok cxok (c := cx) Try.func10 (code := strand_Strand_Next.code) (by kernel_rfl) [.tmp 4, .tmp 5] (by kernel_rfl) 76 (by kernel_rfl) (strand_Strand_Next.sk R) (args := [(Value.pointer a0), (Value.int .i64 a1)]) (Nat.le_of_ble_eq_true rfl) (by kernel_rfl) (o := strand_Strand_Next.owed R) (by kernel_rfl) (strand_Strand_Next.pays R) h

/-! ### (*stopcock/stopcockref16.Strand).Next: function 11 -/
def stopcockref16_Strand_Next.k2 (t0 : Option Addr) (w : World) (R : Ending → World → Prop) : Prop :=
  optP t0 fun d10 =>
  ∃ (x6 : Int), w.cell? (d10.add 4) = some (Value.int .i64 x6) ∧
  (optP t0 fun d11 =>
    (w.cell? (d11.add 4)).isSome = true ∧ w.frozen? (d11.add 4) = false ∧ ∀ w8, w8 = w.setCell (d11.add 4) (Value.int .i64 (IntKind.i64.wrap (x6 + 1))) →
    (optP t0 fun d12 =>
      ∃ (x7 : Int), w8.drew.cell? (d12.add 3) = some (Value.int .i64 x7) ∧
      (optP t0 fun d13 =>
        ∃ (x8 : Int), w8.drew.cell? (d13.add 4) = some (Value.int .i64 x8) ∧
        (callP Try.prog 20 #[(Value.int .i64 x7), (Value.int .i64 (IntKind.i64.wrap (x8 - 1)))] w8.drew (fun v3 w9 =>
            dC v3 fun r1 m1 =>
            R (.returned (Value.tuple #[(Value.complex .f64 r1 m1), (Value.int .i64 0)])) w9) (fun ch w10 => R (.panicked ch) w10)))))
def stopcockref16_Strand_Next.k1 (t0 : Option Addr) (t28 : Bool) (w : World) (R : Ending → World → Prop) : Prop :=
  cond t28 (
    callP Try.prog 18 #[(Value.pointer t0)] w (fun v2 w3 =>
      dS v2 fun p1 n1 c1 =>
      chk (decide (0 < ((n1 : Nat) : Int))) (
        optP p1 fun d4 =>
        ∃ (x4 : Int), w3.cell? d4 = some (Value.int .i64 x4) ∧
        (optP t0 fun d5 =>
          (w3.cell? (d5.add 3)).isSome = true ∧ w3.frozen? (d5.add 3) = false ∧ ∀ w5, w5 = w3.setCell (d5.add 3) (Value.int .i64 x4) →
          (optP t0 fun d6 =>
            ∃ (p2 : Option Addr) (n2 : Nat) (c2 : Nat), w5.drew.cell? (d6.add 2) = some (Value.slice p2 n2 c2) ∧
            (optP t0 fun d7 =>
              ∃ (x5 : Int), w5.drew.cell? (d7.add 3) = some (Value.int .i64 x5) ∧
              (chk (decide (0 ≤ x5)) (
                  chk (decide (x5 < ((n2 : Nat) : Int))) (
                    optP p2 fun d8 =>
                    (w5.drew.cell? (d8.add (x5.toNat * 1))).isSome = true ∧ w5.drew.frozen? (d8.add (x5.toNat * 1)) = false ∧ ∀ w6, w6 = w5.drew.setCell (d8.add (x5.toNat * 1)) (Value.bool false) →
                    (optP t0 fun d9 =>
                      (w6.cell? (d9.add 4)).isSome = true ∧ w6.frozen? (d9.add 4) = false ∧ ∀ w7, w7 = w6.setCell (d9.add 4) (Value.int .i64 0) →
                      (stopcockref16_Strand_Next.k2 t0 w7 R)))))))))) (fun ch w4 => R (.panicked ch) w4)) (
    stopcockref16_Strand_Next.k2 t0 w R)
def stopcockref16_Strand_Next.main (a0 : Option Addr) (a1 : Int) (w : World) (R : Ending → World → Prop) : Prop :=
  cond (decide (a1 < 0)) (
    R (.returned (Value.tuple #[(Value.complex .f64 0 0), (Value.int .i64 1)])) w) (
    callP Try.prog 13 #[(Value.pointer a0), (Value.int .i64 a1)] w (fun v1 w1 =>
      dB v1 fun b1 =>
      cond (!b1) (
        R (.returned (Value.tuple #[(Value.complex .f64 0 0), (Value.int .i64 9)])) w1) (
        optP a0 fun d1 =>
        ∃ (x1 : Int), w1.cell? (d1.add 3) = some (Value.int .i64 x1) ∧
        (cond (decide (x1 < 0)) (
            ∀ k1 : Nat,
            stopcockref16_Strand_Next.k1 a0 true (w1.drewN k1) R) (
            optP a0 fun d2 =>
            ∃ (x2 : Int), w1.cell? (d2.add 4) = some (Value.int .i64 x2) ∧
            (optP a0 fun d3 =>
              ∃ (x3 : Int), w1.cell? (d3.add 1) = some (Value.int .i64 x3) ∧
              (∀ k1 : Nat,
                stopcockref16_Strand_Next.k1 a0 (decide (x2 ≥ x3)) (w1.drewN k1) R)))))) (fun ch w2 => R (.panicked ch) w2))
abbrev stopcockref16_Strand_Next.C (a0 : Option Addr) (a1 : Int) (w : World) (R : Ending → World → Prop) : Prop := Calls Try.prog 11 #[(Value.pointer a0), (Value.int .i64 a1)] w R
noncomputable def stopcockref16_Strand_Next.code : Code := (Try.f11.body).getD .skip
noncomputable def stopcockref16_Strand_Next.sk (R : Ending → World → Prop) : Sk := (.seq .leaf (.seq .leaf (.seq .leaf (.cut [(0, .ptr)] (fun (t0 : Option Addr) (w : World) => stopcockref16_Strand_Next.k2 t0 w R) (.cut [(0, .ptr), (28, .bool)] (fun (t0 : Option Addr) (t28 : Bool) (w : World) => stopcockref16_Strand_Next.k1 t0 t28 w R) .leaf .leaf) .leaf))))
def stopcockref16_Strand_Next.owed (R : Ending → World → Prop) : Prop :=
  (∀ (t0 : Option Addr) (t28 : Bool) (w : World), stopcockref16_Strand_Next.k1 t0 t28 w R → stopcockref16_Strand_Next.k1 t0 t28 w R) ∧ (∀ (t0 : Option Addr) (w : World), stopcockref16_Strand_Next.k2 t0 w R → stopcockref16_Strand_Next.k2 t0 w R) ∧ True
theorem stopcockref16_Strand_Next.pays (R : Ending → World → Prop) : stopcockref16_Strand_Next.owed R := ⟨(fun _ _ _ h => h), (fun _ _ h => h), trivial⟩
set_option maxRecDepth 100000 in
theorem stopcockref16_Strand_Next.ok {a0 : Option Addr} {a1 : Int} {w : World} {R : Ending → World → Prop} (h : stopcockref16_Strand_Next.main a0 a1 w R) : stopcockref16_Strand_Next.C a0 a1 w R :=
  ev_ok cxok (c := cx) Try.func11 (code := stopcockref16_Strand_Next.code) (by kernel_rfl) [.tmp 4, .tmp 5] (by kernel_rfl) 65 (by kernel_rfl) (stopcockref16_Strand_Next.sk R) (args := [(Value.pointer a0), (Value.int .i64 a1)]) (Nat.le_of_ble_eq_true rfl) (by kernel_rfl) (o := stopcockref16_Strand_Next.owed R) (by kernel_rfl) (stopcockref16_Strand_Next.pays R) h

/-! ### (*stopcock/strand.Strand).Room: function 12 -/
def strand_Strand_Room.main (a0 : Option Addr) (a1 : Int) (w : World) (R : Ending → World → Prop) : Prop :=
  cond (!(Option.isNone a0)) (
    cond (decide (a1 ≥ 0)) (
      callP Try.prog 23 #[(Value.pointer a0)] w (fun v1 w1 =>
        dB v1 fun b1 =>
        cond (!b1) (
          R (.returned (Value.bool true)) w1) (
          optP a0 fun d1 =>
          ∃ (p1 : Option Addr) (n1 : Nat) (c1 : Nat), w1.cell? (d1.add 2) = some (Value.slice p1 n1 c1) ∧
          (R (.returned (Value.bool (decide (((n1 : Nat) : Int) > a1)))) w1))) (fun ch w2 => R (.panicked ch) w2)) (
      R (.returned (Value.bool false)) w)) (
    R (.returned (Value.bool false)) w)
abbrev strand_Strand_Room.C (a0 : Option Addr) (a1 : Int) (w : World) (R : Ending → World → Prop) : Prop := Calls Try.prog 12 #[(Value.pointer a0), (Value.int .i64 a1)] w R
noncomputable def strand_Strand_Room.code : Code := (Try.f12.body).getD .skip
noncomputable def strand_Strand_Room.sk (R : Ending → World → Prop) : Sk := .leaf
def strand_Strand_Room.owed (R : Ending → World → Prop) : Prop :=
  True
theorem strand_Strand_Room.pays (R : Ending → World → Prop) : strand_Strand_Room.owed R := trivial
set_option maxRecDepth 100000 in
theorem strand_Strand_Room.ok {a0 : Option Addr} {a1 : Int} {w : World} {R : Ending → World → Prop} (h : strand_Strand_Room.main a0 a1 w R) : strand_Strand_Room.C a0 a1 w R :=
  ev_ok cxok (c := cx) Try.func12 (code := strand_Strand_Room.code) (by kernel_rfl) [.tmp 4] (by kernel_rfl) 25 (by kernel_rfl) (strand_Strand_Room.sk R) (args := [(Value.pointer a0), (Value.int .i64 a1)]) (Nat.le_of_ble_eq_true rfl) (by kernel_rfl) (o := strand_Strand_Room.owed R) (by kernel_rfl) (strand_Strand_Room.pays R) h

/-! ### (*stopcock/stopcockref16.Strand).Room: function 13 -/
def stopcockref16_Strand_Room.main (a0 : Option Addr) (a1 : Int) (w : World) (R : Ending → World → Prop) : Prop :=
  cond (decide (a1 ≥ 0)) (
    optP a0 fun d1 =>
    ∃ (x1 : Int), w.drew.cell? (d1.add 3) = some (Value.int .i64 x1) ∧
    (cond (decide (x1 ≥ 0)) (
        optP a0 fun d2 =>
        ∃ (x2 : Int), w.drew.cell? (d2.add 4) = some (Value.int .i64 x2) ∧
        (optP a0 fun d3 =>
          ∃ (x3 : Int), w.drew.cell? (d3.add 1) = some (Value.int .i64 x3) ∧
          (cond (decide (x2 < x3)) (
              R (.returned (Value.bool true)) w.drew) (
              callP Try.prog 18 #[(Value.pointer a0)] w.drew (fun v1 w1 =>
                dS v1 fun p1 n1 c1 =>
                R (.returned (Value.bool (decide (((n1 : Nat) : Int) > a1)))) w1) (fun ch w2 => R (.panicked ch) w2))))) (
        callP Try.prog 18 #[(Value.pointer a0)] w.drew (fun v2 w3 =>
          dS v2 fun p2 n2 c2 =>
          R (.returned (Value.bool (decide (((n2 : Nat) : Int) > a1)))) w3) (fun ch w4 => R (.panicked ch) w4)))) (
    R (.returned (Value.bool false)) w.drew)
abbrev stopcockref16_Strand_Room.C (a0 : Option Addr) (a1 : Int) (w : World) (R : Ending → World → Prop) : Prop := Calls Try.prog 13 #[(Value.pointer a0), (Value.int .i64 a1)] w R
noncomputable def stopcockref16_Strand_Room.code : Code := (Try.f13.body).getD .skip
noncomputable def stopcockref16_Strand_Room.sk (R : Ending → World → Prop) : Sk := .leaf
def stopcockref16_Strand_Room.owed (R : Ending → World → Prop) : Prop :=
  True
theorem stopcockref16_Strand_Room.pays (R : Ending → World → Prop) : stopcockref16_Strand_Room.owed R := trivial
set_option maxRecDepth 100000 in
theorem stopcockref16_Strand_Room.ok {a0 : Option Addr} {a1 : Int} {w : World} {R : Ending → World → Prop} (h : stopcockref16_Strand_Room.main a0 a1 w R) : stopcockref16_Strand_Room.C a0 a1 w R :=
  ev_ok cxok (c := cx) Try.func13 (code := stopcockref16_Strand_Room.code) (by kernel_rfl) [.tmp 4] (by kernel_rfl) 33 (by kernel_rfl) (stopcockref16_Strand_Room.sk R) (args := [(Value.pointer a0), (Value.int .i64 a1)]) (Nat.le_of_ble_eq_true rfl) (by kernel_rfl) (o := stopcockref16_Strand_Room.owed R) (by kernel_rfl) (stopcockref16_Strand_Room.pays R) h

/-! ### (*stopcock/strand.Strand).Free: function 14 -/
def strand_Strand_Free.k1 (t0 : Option Addr) (t1 : Int) (t7 : Bool) (w : World) (R : Ending → World → Prop) : Prop :=
  cond t7 (
    R (.returned (Value.int .i64 1)) w) (
    optP t0 fun d2 =>
    ∃ (x2 : Int), w.cell? (d2.add 3) = some (Value.int .i64 x2) ∧
    (cond (t1 == x2) (
        R (.returned (Value.int .i64 12)) w) (
        optP t0 fun d3 =>
        ∃ (p1 : Option Addr) (n1 : Nat) (c1 : Nat), w.cell? (d3.add 2) = some (Value.slice p1 n1 c1) ∧
        (callP Try.prog 26 #[(Value.slice p1 n1 c1), (Value.int .i64 t1)] w (fun v1 w1 =>
            dB v1 fun b1 =>
            cond b1 (
              R (.returned (Value.int .i64 12)) w1) (
              optP t0 fun d4 =>
              ∃ (p2 : Option Addr) (n2 : Nat) (c2 : Nat), w1.cell? (d4.add 2) = some (Value.slice p2 n2 c2) ∧
              (callP Try.prog 27 #[(Value.slice p2 n2 c2), (Value.int .i64 t1)] w1 (fun v2 w3 =>
                  dT v2 fun vs1 =>
                  optP (vs1[0]?) fun v3 =>
                  dI .i64 v3 fun x3 =>
                  optP (vs1[1]?) fun v4 =>
                  dB v4 fun b2 =>
                  optP t0 fun d5 =>
                  ∃ (p3 : Option Addr) (n3 : Nat) (c3 : Nat), w3.cell? (d5.add 2) = some (Value.slice p3 n3 c3) ∧
                  (newP w3 #[(Value.int .i64 t1)] 3 fun b3 w5 =>
                    callP Try.prog 28 #[(Value.slice p3 n3 c3), (Value.int .i64 x3), (Value.slice (some ⟨b3, 0, none⟩) 1 1)] w5 (fun v5 w6 =>
                      dS v5 fun p4 n4 c4 =>
                      optP t0 fun d6 =>
                      (w6.cell? (d6.add 2)).isSome = true ∧ w6.frozen? (d6.add 2) = false ∧ ∀ w8, w8 = w6.setCell (d6.add 2) (Value.slice p4 n4 c4) →
                      (R (.returned (Value.int .i64 0)) w8)) (fun ch w7 => R (.panicked ch) w7))) (fun ch w4 => R (.panicked ch) w4)))) (fun ch w2 => R (.panicked ch) w2)))))
def strand_Strand_Free.main (a0 : Option Addr) (a1 : Int) (w : World) (R : Ending → World → Prop) : Prop :=
  cond (Option.isNone a0) (
    strand_Strand_Free.k1 a0 a1 true w R) (
    cond (decide (a1 < 0)) (
      strand_Strand_Free.k1 a0 a1 true w R) (
      optP a0 fun d1 =>
      ∃ (x1 : Int), w.cell? d1 = some (Value.int .i64 x1) ∧
      (strand_Strand_Free.k1 a0 a1 (decide (a1 ≥ x1)) w R)))
abbrev strand_Strand_Free.C (a0 : Option Addr) (a1 : Int) (w : World) (R : Ending → World → Prop) : Prop := Calls Try.prog 14 #[(Value.pointer a0), (Value.int .i64 a1)] w R
noncomputable def strand_Strand_Free.code : Code := (Try.f14.body).getD .skip
noncomputable def strand_Strand_Free.sk (R : Ending → World → Prop) : Sk := (.seq .leaf (.seq (.block (.cut [(0, .ptr), (1, .int .i64), (7, .bool)] (fun (t0 : Option Addr) (t1 : Int) (t7 : Bool) (w : World) => strand_Strand_Free.k1 t0 t1 t7 w R) .leaf .leaf)) .leaf))
def strand_Strand_Free.owed (R : Ending → World → Prop) : Prop :=
  (∀ (t0 : Option Addr) (t1 : Int) (t7 : Bool) (w : World), strand_Strand_Free.k1 t0 t1 t7 w R → strand_Strand_Free.k1 t0 t1 t7 w R) ∧ True
theorem strand_Strand_Free.pays (R : Ending → World → Prop) : strand_Strand_Free.owed R := ⟨(fun _ _ _ _ h => h), trivial⟩
set_option maxRecDepth 100000 in
theorem strand_Strand_Free.ok {a0 : Option Addr} {a1 : Int} {w : World} {R : Ending → World → Prop} (h : strand_Strand_Free.main a0 a1 w R) : strand_Strand_Free.C a0 a1 w R :=
  ev_ok cxok (c := cx) Try.func14 (code := strand_Strand_Free.code) (by kernel_rfl) [.tmp 4] (by kernel_rfl) 58 (by kernel_rfl) (strand_Strand_Free.sk R) (args := [(Value.pointer a0), (Value.int .i64 a1)]) (Nat.le_of_ble_eq_true rfl) (by kernel_rfl) (o := strand_Strand_Free.owed R) (by kernel_rfl) (strand_Strand_Free.pays R) h

/-! ### (*stopcock/stopcockref16.Strand).Free: function 15 -/
def stopcockref16_Strand_Free.main (a0 : Option Addr) (a1 : Int) (w : World) (R : Ending → World → Prop) : Prop :=
  cond (decide (a1 < 0)) (
    R (.returned (Value.int .i64 1)) w) (
    optP a0 fun d1 =>
    ∃ (p1 : Option Addr) (n1 : Nat) (c1 : Nat), w.cell? (d1.add 2) = some (Value.slice p1 n1 c1) ∧
    (cond (decide (a1 ≥ ((n1 : Nat) : Int))) (
        R (.returned (Value.int .i64 1)) w) (
        optP a0 fun d2 =>
        ∃ (x1 : Int), w.cell? (d2.add 3) = some (Value.int .i64 x1) ∧
        (cond (a1 == x1) (
            R (.returned (Value.int .i64 12)) w) (
            optP a0 fun d3 =>
            ∃ (p2 : Option Addr) (n2 : Nat) (c2 : Nat), w.cell? (d3.add 2) = some (Value.slice p2 n2 c2) ∧
            (chk (decide (0 ≤ a1)) (
                chk (decide (a1 < ((n2 : Nat) : Int))) (
                  optP p2 fun d4 =>
                  ∃ (b1 : Bool), w.cell? (d4.add (a1.toNat * 1)) = some (Value.bool b1) ∧
                  (cond b1 (
                      R (.returned (Value.int .i64 12)) w) (
                      optP a0 fun d5 =>
                      ∃ (p3 : Option Addr) (n3 : Nat) (c3 : Nat), w.cell? (d5.add 2) = some (Value.slice p3 n3 c3) ∧
                      (chk (decide (0 ≤ a1)) (
                          chk (decide (a1 < ((n3 : Nat) : Int))) (
                          optP p3 fun d6 =>
                          (w.cell? (d6.add (a1.toNat * 1))).isSome = true ∧ w.frozen? (d6.add (a1.toNat * 1)) = false ∧ ∀ w1, w1 = w.setCell (d6.add (a1.toNat * 1)) (Value.bool true) →
                          (R (.returned (Value.int .i64 0)) w1))))))))))))))
abbrev stopcockref16_Strand_Free.C (a0 : Option Addr) (a1 : Int) (w : World) (R : Ending → World → Prop) : Prop := Calls Try.prog 15 #[(Value.pointer a0), (Value.int .i64 a1)] w R
noncomputable def stopcockref16_Strand_Free.code : Code := (Try.f15.body).getD .skip
noncomputable def stopcockref16_Strand_Free.sk (R : Ending → World → Prop) : Sk := .leaf
def stopcockref16_Strand_Free.owed (R : Ending → World → Prop) : Prop :=
  True
theorem stopcockref16_Strand_Free.pays (R : Ending → World → Prop) : stopcockref16_Strand_Free.owed R := trivial
set_option maxRecDepth 100000 in
theorem stopcockref16_Strand_Free.ok {a0 : Option Addr} {a1 : Int} {w : World} {R : Ending → World → Prop} (h : stopcockref16_Strand_Free.main a0 a1 w R) : stopcockref16_Strand_Free.C a0 a1 w R :=
  ev_ok cxok (c := cx) Try.func15 (code := stopcockref16_Strand_Free.code) (by kernel_rfl) [.tmp 4] (by kernel_rfl) 37 (by kernel_rfl) (stopcockref16_Strand_Free.sk R) (args := [(Value.pointer a0), (Value.int .i64 a1)]) (Nat.le_of_ble_eq_true rfl) (by kernel_rfl) (o := stopcockref16_Strand_Free.owed R) (by kernel_rfl) (stopcockref16_Strand_Free.pays R) h

/-! ### (*stopcock/strand.Strand).Frees: function 16 -/
def strand_Strand_Frees.main (a0 : Option Addr) (w : World) (R : Ending → World → Prop) : Prop :=
  cond (Option.isNone a0) (
    R (.returned (Value.tuple #[(Value.slice none 0 0), (Value.int .i64 (-1))])) w) (
    optP a0 fun d1 =>
    ∃ (p1 : Option Addr) (n1 : Nat) (c1 : Nat), w.drew.cell? (d1.add 2) = some (Value.slice p1 n1 c1) ∧
    (optP a0 fun d2 =>
      ∃ (x1 : Int), w.drew.cell? (d2.add 3) = some (Value.int .i64 x1) ∧
      (callP Try.prog 24 #[(Value.slice p1 n1 c1)] w.drew (fun v1 w1 =>
          dS v1 fun p2 n2 c2 =>
          w1.cell? (d2.add 3) = some (Value.int .i64 x1) ∧
          (R (.returned (Value.tuple #[(Value.slice p2 n2 c2), (Value.int .i64 x1)])) w1)) (fun ch w2 => R (.panicked ch) w2))))
abbrev strand_Strand_Frees.C (a0 : Option Addr) (w : World) (R : Ending → World → Prop) : Prop := Calls Try.prog 16 #[(Value.pointer a0)] w R
noncomputable def strand_Strand_Frees.code : Code := (Try.f16.body).getD .skip
noncomputable def strand_Strand_Frees.sk (R : Ending → World → Prop) : Sk := .leaf
def strand_Strand_Frees.owed (R : Ending → World → Prop) : Prop :=
  True
theorem strand_Strand_Frees.pays (R : Ending → World → Prop) : strand_Strand_Frees.owed R := trivial
set_option maxRecDepth 100000 in
theorem strand_Strand_Frees.ok {a0 : Option Addr} {w : World} {R : Ending → World → Prop} (h : strand_Strand_Frees.main a0 w R) : strand_Strand_Frees.C a0 w R :=
  ev_ok cxok (c := cx) Try.func16 (code := strand_Strand_Frees.code) (by kernel_rfl) [.tmp 2, .tmp 3] (by kernel_rfl) 15 (by kernel_rfl) (strand_Strand_Frees.sk R) (args := [(Value.pointer a0)]) (Nat.le_of_ble_eq_true rfl) (by kernel_rfl) (o := strand_Strand_Frees.owed R) (by kernel_rfl) (strand_Strand_Frees.pays R) h

/-! ### stopcock/stopcockref01.Ints: function 17 -/
def stopcockref01_Ints.b1 (t0p : Option Addr) (t0n : Nat) (t0c : Nat) (t1p : Option Addr) (t1n : Nat) (t1c : Nat) (t5 : Int) (w : World) (R : Ending → World → Prop) (C1 : Option Addr → Nat → Nat → Option Addr → Nat → Nat → Int → World → Prop) : Prop :=
  cond (decide (t5 < ((t0n : Nat) : Int))) (
    chk (decide (0 ≤ t5)) (
      chk (decide (t5 < ((t0n : Nat) : Int))) (
        optP t0p fun d1 =>
        ∃ (x1 : Int), w.cell? (d1.add (t5.toNat * 1)) = some (Value.int .i64 x1) ∧
        (chk (decide (0 ≤ t5)) (
            chk (decide (t5 < ((t1n : Nat) : Int))) (
              optP t1p fun d2 =>
              ∃ (x2 : Int), w.cell? (d2.add (t5.toNat * 1)) = some (Value.int .i64 x2) ∧
              (∀ k1 : Nat,
                cond (x1 != x2) (
                  R (.returned (Value.bool false)) (w.drewN k1)) (
                  C1 t0p t0n t0c t1p t1n t1c (IntKind.i64.wrap (t5 + 1)) (w.drewN k1))))))))) (
    R (.returned (Value.bool true)) w)
def stopcockref01_Ints.l1 (t0p : Option Addr) (t0n : Nat) (t0c : Nat) (t1p : Option Addr) (t1n : Nat) (t1c : Nat) (t5 : Int) (w : World) (R : Ending → World → Prop) : Prop :=
  ∃ (I : Option Addr → Nat → Nat → Option Addr → Nat → Nat → Int → World → Prop) (m : Option Addr → Nat → Nat → Option Addr → Nat → Nat → Int → World → Nat), I t0p t0n t0c t1p t1n t1c t5 w ∧
  ∀ (t0p : Option Addr) (t0n : Nat) (t0c : Nat) (t1p : Option Addr) (t1n : Nat) (t1c : Nat) (t5 : Int) (w : World), I t0p t0n t0c t1p t1n t1c t5 w →
  stopcockref01_Ints.b1 t0p t0n t0c t1p t1n t1c t5 w R (fun t0p' t0n' t0c' t1p' t1n' t1c' t5' w' => I t0p' t0n' t0c' t1p' t1n' t1c' t5' w' ∧ m t0p' t0n' t0c' t1p' t1n' t1c' t5' w' < m t0p t0n t0c t1p t1n t1c t5 w)
def stopcockref01_Ints.main (a0p : Option Addr) (a0n : Nat) (a0c : Nat) (a1p : Option Addr) (a1n : Nat) (a1c : Nat) (w : World) (R : Ending → World → Prop) : Prop :=
  cond (((a0n : Nat) : Int) != ((a1n : Nat) : Int)) (
    R (.returned (Value.bool false)) w) (
    stopcockref01_Ints.l1 a0p a0n a0c a1p a1n a1c 0 w R)
abbrev stopcockref01_Ints.C (a0p : Option Addr) (a0n : Nat) (a0c : Nat) (a1p : Option Addr) (a1n : Nat) (a1c : Nat) (w : World) (R : Ending → World → Prop) : Prop := Calls Try.prog 17 #[(Value.slice a0p a0n a0c), (Value.slice a1p a1n a1c)] w R
noncomputable def stopcockref01_Ints.code : Code := (Try.f17.body).getD .skip
noncomputable def stopcockref01_Ints.sk (R : Ending → World → Prop) : Sk := (.seq .leaf (.seq .leaf (.seq (.seq .leaf (.block (.loop [(0, .slice), (1, .slice), (5, .int .i64)] (fun (t0p : Option Addr) (t0n : Nat) (t0c : Nat) (t1p : Option Addr) (t1n : Nat) (t1c : Nat) (t5 : Int) (w : World) => stopcockref01_Ints.l1 t0p t0n t0c t1p t1n t1c t5 w R) (fun (C1 : Option Addr → Nat → Nat → Option Addr → Nat → Nat → Int → World → Prop) => .leaf)))) .leaf)))
def stopcockref01_Ints.owed (R : Ending → World → Prop) : Prop :=
  (∀ (t0p : Option Addr) (t0n : Nat) (t0c : Nat) (t1p : Option Addr) (t1n : Nat) (t1c : Nat) (t5 : Int) (w : World), stopcockref01_Ints.l1 t0p t0n t0c t1p t1n t1c t5 w R → stopcockref01_Ints.l1 t0p t0n t0c t1p t1n t1c t5 w R) ∧ (∀ (C1 : Option Addr → Nat → Nat → Option Addr → Nat → Nat → Int → World → Prop), True) ∧ True
theorem stopcockref01_Ints.pays (R : Ending → World → Prop) : stopcockref01_Ints.owed R := ⟨(fun _ _ _ _ _ _ _ _ h => h), (fun _ => trivial), trivial⟩
set_option maxRecDepth 100000 in
theorem stopcockref01_Ints.ok {a0p : Option Addr} {a0n : Nat} {a0c : Nat} {a1p : Option Addr} {a1n : Nat} {a1c : Nat} {w : World} {R : Ending → World → Prop} (h : stopcockref01_Ints.main a0p a0n a0c a1p a1n a1c w R) : stopcockref01_Ints.C a0p a0n a0c a1p a1n a1c w R :=
  ev_ok cxok (c := cx) Try.func17 (code := stopcockref01_Ints.code) (by kernel_rfl) [.tmp 4] (by kernel_rfl) 26 (by kernel_rfl) (stopcockref01_Ints.sk R) (args := [(Value.slice a0p a0n a0c), (Value.slice a1p a1n a1c)]) (Nat.le_of_ble_eq_true rfl) (by kernel_rfl) (o := stopcockref01_Ints.owed R) (by kernel_rfl) (stopcockref01_Ints.pays R) h

end Go.Proofs.Ythopiffhkldnhaa.G

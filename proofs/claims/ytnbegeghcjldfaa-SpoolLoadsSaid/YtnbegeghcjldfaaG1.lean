/- Statements of functions, and that their calls do what they say. Printed by wip/tool/dec.py. Conditions: none. -/
import Derived.Test.YtnbegeghcjldfaaG0
namespace Go.Proofs.Ytnbegeghcjldfaa.G
open Go.Dec
set_option linter.unusedVariables false

/-! ### stopcock/stopcocklaw15.SpoolSectors: function 4 -/
def stopcocklaw15_SpoolSectors.k1 (t0 : Int) (t3 : Int) (t4 : Int) (t15 : Bool) (w : World) (R : Ending → World → Prop) : Prop :=
  cond t15 (
    callP Try.prog 6 #[] w (fun v4 w3 =>
      dB v4 fun b1 =>
      cond b1 (
        cond (t4 == 1) (
          R (.returned (Value.bool (t3 == 0))) w3) (
          R (.returned (Value.bool false)) w3)) (
        R (.returned (Value.bool false)) w3)) (fun ch w4 => R (.panicked ch) w4)) (
    callP Try.prog 6 #[] w (fun v5 w5 =>
      dB v5 fun b2 =>
      cond b2 (
        cond (t4 == 0) (
          cond (decide ((IntKind.i64.wrap (6 * t3)) ≥ t0)) (
            R (.returned (Value.bool (decide ((IntKind.i64.wrap (6 * t3)) < (IntKind.i64.wrap (t0 + 6)))))) w5) (
            R (.returned (Value.bool false)) w5)) (
          R (.returned (Value.bool false)) w5)) (
        R (.returned (Value.bool false)) w5)) (fun ch w6 => R (.panicked ch) w6))
def stopcocklaw15_SpoolSectors.main (a0 : Int) (w : World) (R : Ending → World → Prop) : Prop :=
  callP Try.prog 13 #[(Value.int .i64 a0)] w (fun v1 w1 =>
    dT v1 fun vs1 =>
    optP (vs1[0]?) fun v2 =>
    dI .i64 v2 fun x1 =>
    optP (vs1[1]?) fun v3 =>
    dI .i64 v3 fun x2 =>
    cond (decide (a0 < 0)) (
      stopcocklaw15_SpoolSectors.k1 a0 x1 x2 true w1 R) (
      stopcocklaw15_SpoolSectors.k1 a0 x1 x2 (decide (a0 > 96)) w1 R)) (fun ch w2 => R (.panicked ch) w2)
abbrev stopcocklaw15_SpoolSectors.C (a0 : Int) (w : World) (R : Ending → World → Prop) : Prop := Calls Try.prog 4 #[(Value.int .i64 a0)] w R
noncomputable def stopcocklaw15_SpoolSectors.code : Code := (Try.f4.body).getD .skip
noncomputable def stopcocklaw15_SpoolSectors.sk (R : Ending → World → Prop) : Sk := (.seq .leaf (.seq .leaf (.seq (.cut [(0, .int .i64), (3, .int .i64), (4, .int .i64), (15, .bool)] (fun (t0 : Int) (t3 : Int) (t4 : Int) (t15 : Bool) (w : World) => stopcocklaw15_SpoolSectors.k1 t0 t3 t4 t15 w R) .leaf .leaf) .leaf)))
def stopcocklaw15_SpoolSectors.owed (R : Ending → World → Prop) : Prop :=
  (∀ (t0 : Int) (t3 : Int) (t4 : Int) (t15 : Bool) (w : World), stopcocklaw15_SpoolSectors.k1 t0 t3 t4 t15 w R → stopcocklaw15_SpoolSectors.k1 t0 t3 t4 t15 w R) ∧ True
theorem stopcocklaw15_SpoolSectors.pays (R : Ending → World → Prop) : stopcocklaw15_SpoolSectors.owed R := ⟨(fun _ _ _ _ _ h => h), trivial⟩
set_option maxRecDepth 100000 in
theorem stopcocklaw15_SpoolSectors.ok {a0 : Int} {w : World} {R : Ending → World → Prop} (h : stopcocklaw15_SpoolSectors.main a0 w R) : stopcocklaw15_SpoolSectors.C a0 w R :=
  ev_ok cxok (c := cx) Try.func4 (code := stopcocklaw15_SpoolSectors.code) (by kernel_rfl) [.tmp 2] (by kernel_rfl) 43 (by kernel_rfl) (stopcocklaw15_SpoolSectors.sk R) (args := [(Value.int .i64 a0)]) (Nat.le_of_ble_eq_true rfl) (by kernel_rfl) (o := stopcocklaw15_SpoolSectors.owed R) (by kernel_rfl) (stopcocklaw15_SpoolSectors.pays R) h

/-! ### stopcock/basin.New: function 5 -/
def basin_New.main (a0 : Int) (w : World) (R : Ending → World → Prop) : Prop :=
  cond (decide (a0 < 1)) (
    R (.returned (Value.tuple #[(Value.pointer none), (Value.int .i64 1)])) w) (
    cond (decide (a0 > 424)) (
      R (.returned (Value.tuple #[(Value.pointer none), (Value.int .i64 1)])) w) (
      (chk (decide (0 ≤ a0)) (
          chk (decide (a0 ≤ a0)) (
            chk (decide ((64 : Int) * a0 ≤ 281474976710656 ∧ a0 ≤ 9223372036854775807)) (
              newP w.drew (madeCells (List.replicate 64 (Value.int .u8 0)).toArray (a0.toNat * 64)) 58 fun b1 w1 =>
              chk (decide (0 ≤ a0)) (
                chk (decide (a0 ≤ a0)) (
                  chk (decide ((64 : Int) * a0 ≤ 281474976710656 ∧ a0 ≤ 9223372036854775807)) (
                    newP w1 (madeCells (List.replicate 64 (Value.int .u8 0)).toArray (a0.toNat * 64)) 58 fun b2 w2 =>
                    newP w2 #[(Value.slice (some ⟨b1, 0, none⟩) a0.toNat a0.toNat), (Value.slice (some ⟨b2, 0, none⟩) a0.toNat a0.toNat), (Value.slice none 0 0), (Value.int .i64 (-1)), (Value.bool false)] 48 fun b3 w3 =>
                    R (.returned (Value.tuple #[(Value.pointer (some (⟨b3, 0, none⟩ : Addr))), (Value.int .i64 0)])) w3))))))) ∧
      (chk (decide (0 ≤ a0)) (
          chk (decide (a0 ≤ a0)) (
            chk (decide ((64 : Int) * a0 ≤ 281474976710656 ∧ a0 ≤ 9223372036854775807)) (
              newP w.drew (madeCells (List.replicate 64 (Value.int .u8 0)).toArray (a0.toNat * 64)) 58 fun b4 w4 =>
              chk (decide (0 ≤ a0)) (
                chk (decide (a0 ≤ a0)) (
                  chk (decide ((64 : Int) * a0 ≤ 281474976710656 ∧ a0 ≤ 9223372036854775807)) (
                    newP w4 (madeCells (List.replicate 64 (Value.int .u8 0)).toArray (a0.toNat * 64)) 58 fun b5 w5 =>
                    newP w5 #[(Value.slice (some ⟨b5, 0, none⟩) a0.toNat a0.toNat), (Value.slice (some ⟨b4, 0, none⟩) a0.toNat a0.toNat), (Value.slice none 0 0), (Value.int .i64 (-1)), (Value.bool false)] 48 fun b6 w6 =>
                    R (.returned (Value.tuple #[(Value.pointer (some (⟨b6, 0, none⟩ : Addr))), (Value.int .i64 0)])) w6)))))))))
abbrev basin_New.C (a0 : Int) (w : World) (R : Ending → World → Prop) : Prop := Calls Try.prog 5 #[(Value.int .i64 a0)] w R
noncomputable def basin_New.code : Code := (Try.f5.body).getD .skip
noncomputable def basin_New.sk (R : Ending → World → Prop) : Sk := .leaf
def basin_New.owed (R : Ending → World → Prop) : Prop :=
  True
theorem basin_New.pays (R : Ending → World → Prop) : basin_New.owed R := trivial
set_option maxRecDepth 100000 in
theorem basin_New.ok {a0 : Int} {w : World} {R : Ending → World → Prop} (h : basin_New.main a0 w R) : basin_New.C a0 w R :=
  ev_ok cxok (c := cx) Try.func5 (code := basin_New.code) (by kernel_rfl) [.tmp 2, .tmp 3] (by kernel_rfl) 16 (by kernel_rfl) (basin_New.sk R) (args := [(Value.int .i64 a0)]) (Nat.le_of_ble_eq_true rfl) (by kernel_rfl) (o := basin_New.owed R) (by kernel_rfl) (basin_New.pays R) h

/-! ### stopcock/stopcocklaw15.awake: function 6 -/
def stopcocklaw15_awake.main (w : World) (R : Ending → World → Prop) : Prop :=
  callP Try.prog 5 #[(Value.int .i64 60)] w (fun v1 w1 =>
    dT v1 fun vs1 =>
    optP (vs1[0]?) fun v2 =>
    dP v2 fun p1 =>
    optP (vs1[1]?) fun v3 =>
    dI .i64 v3 fun x1 =>
    newP w1 #[(Value.int .i64 1), (Value.int .i64 0), (Value.int .i64 0), (Value.int .i64 3), (Value.complex .f64 0 0), (Value.int .i64 2), (Value.int .i64 0), (Value.int .i64 0), (Value.int .i64 0), (Value.complex .f64 0 0)] 52 fun b1 w3 =>
    callP Try.prog 14 #[(Value.pointer p1), (Value.int .i64 9), (Value.int .i64 0), (Value.slice (some ⟨b1, 0, none⟩) 2 2)] w3 (fun v4 w4 =>
      dT v4 fun vs2 =>
      optP (vs2[0]?) fun v5 =>
      dI .i64 v5 fun x2 =>
      optP (vs2[1]?) fun v6 =>
      dI .i64 v6 fun x3 =>
      callP Try.prog 8 #[(Value.pointer p1), (Value.int .i64 9)] w4 (fun v7 w6 =>
        dT v7 fun vs3 =>
        optP (vs3[0]?) fun v8 =>
        dS v8 fun p2 n1 c1 =>
        optP (vs3[1]?) fun v9 =>
        dI .i64 v9 fun x4 =>
        optP (vs3[2]?) fun v10 =>
        dI .i64 v10 fun x5 =>
        cond (x1 == 0) (
          cond (x3 == 0) (
            cond (x5 == 0) (
              cond (x2 == 1) (
                cond (x4 == 1) (
                  cond (((n1 : Nat) : Int) == 2) (
                    chk (decide (1 < ((n1 : Nat) : Int))) (
                      optP p2 fun d1 =>
                      ∃ (x6 : Int), w6.cell? (d1.add 5) = some (Value.int .i64 x6) ∧
                      (R (.returned (Value.bool (x6 == 2))) w6))) (
                    R (.returned (Value.bool false)) w6)) (
                  R (.returned (Value.bool false)) w6)) (
                R (.returned (Value.bool false)) w6)) (
              R (.returned (Value.bool false)) w6)) (
            R (.returned (Value.bool false)) w6)) (
          R (.returned (Value.bool false)) w6)) (fun ch w7 => R (.panicked ch) w7)) (fun ch w5 => R (.panicked ch) w5)) (fun ch w2 => R (.panicked ch) w2)
abbrev stopcocklaw15_awake.C (w : World) (R : Ending → World → Prop) : Prop := Calls Try.prog 6 #[] w R
noncomputable def stopcocklaw15_awake.code : Code := (Try.f6.body).getD .skip
noncomputable def stopcocklaw15_awake.sk (R : Ending → World → Prop) : Sk := .leaf
def stopcocklaw15_awake.owed (R : Ending → World → Prop) : Prop :=
  True
theorem stopcocklaw15_awake.pays (R : Ending → World → Prop) : stopcocklaw15_awake.owed R := trivial
set_option maxRecDepth 100000 in
theorem stopcocklaw15_awake.ok {w : World} {R : Ending → World → Prop} (h : stopcocklaw15_awake.main  w R) : stopcocklaw15_awake.C  w R :=
  ev_ok cxok (c := cx) Try.func6 (code := stopcocklaw15_awake.code) (by kernel_rfl) [.tmp 0] (by kernel_rfl) 56 (by kernel_rfl) (stopcocklaw15_awake.sk R) (args := []) (Nat.le_of_ble_eq_true rfl) (by kernel_rfl) (o := stopcocklaw15_awake.owed R) (by kernel_rfl) (stopcocklaw15_awake.pays R) h

/-! ### (*stopcock/basin.Basin).Put: function 7 -/
def basin_Basin_Put.b1 (t2 : Nat) (t18p : Option Addr) (t18n : Nat) (t18c : Nat) (t19 : Int) (t20 : Int) (w : World) (R : Ending → World → Prop) (C1 : Nat → Option Addr → Nat → Nat → Int → Int → World → Prop) : Prop :=
  cond (decide (t20 < t19)) (
    chk (decide (0 ≤ t20)) (
      chk (decide (t20 < ((t18n : Nat) : Int))) (
        optP t18p fun d1 =>
        ∃ (cs1 : Array Value), cs1.size = 2 ∧ CellsAt w (d1.add (t20.toNat * 2)) cs1.toList ∧
        (newP w #[(Value.int .i64 0), (Value.slice none 0 0)] 31 fun b4 w8 =>
          chk (decide (cs1.size = 2)) (
            Wr w8 (⟨b4, 0, none⟩ : Addr) cs1.toList ∧ ∀ w9, w9 = w8.setCells (⟨b4, 0, none⟩ : Addr).block (⟨b4, 0, none⟩ : Addr).off cs1.toList →
            (∃ (p2 : Option Addr), w9.cell? (⟨t2, 0, none⟩ : Addr) = some (Value.pointer p2) ∧
              (callP Try.prog 19 #[(Value.pointer p2)] w9 (fun v4 w10 =>
                  dB v4 fun b5 =>
                  cond b5 (
                    R (.returned (Value.int .i64 10)) w10) (
                    ∃ (p3 : Option Addr), w10.drew.cell? (⟨t2, 0, none⟩ : Addr) = some (Value.pointer p3) ∧
                    (optP p3 fun d2 =>
                      ∃ (p4 : Option Addr) (n1 : Nat) (c1 : Nat), w10.drew.cell? (d2.add 1) = some (Value.slice p4 n1 c1) ∧
                      (∃ (x2 : Int), w10.drew.cell? (⟨b4, 0, none⟩ : Addr) = some (Value.int .i64 x2) ∧
                        (∃ (p5 : Option Addr) (n2 : Nat) (c2 : Nat), w10.drew.cell? (⟨b4, 1, none⟩ : Addr) = some (Value.slice p5 n2 c2) ∧
                          (chk (decide (64 ≤ n2)) (
                          optP p5 fun d3 =>
                          ∃ (cs2 : Array Value), cs2.size = 64 ∧ CellsAt w10.drew d3 cs2.toList ∧
                          (chk (decide (0 ≤ x2)) (
                          chk (decide (x2 < ((n1 : Nat) : Int))) (
                          optP p4 fun d4 =>
                          chk (decide (cs2.size = 64)) (
                          Wr w10.drew (d4.add (x2.toNat * 64)) cs2.toList ∧ ∀ w12, w12 = w10.drew.setCells (d4.add (x2.toNat * 64)).block (d4.add (x2.toNat * 64)).off cs2.toList →
                          (∃ (p6 : Option Addr), w12.drew.cell? (⟨t2, 0, none⟩ : Addr) = some (Value.pointer p6) ∧
                          (∃ (p7 : Option Addr), w12.drew.cell? (⟨t2, 0, none⟩ : Addr) = some (Value.pointer p7) ∧
                          (optP p7 fun d5 =>
                          ∃ (p8 : Option Addr) (n3 : Nat) (c3 : Nat), w12.drew.cell? (d5.add 2) = some (Value.slice p8 n3 c3) ∧
                          (∃ (x3 : Int), w12.drew.cell? (⟨b4, 0, none⟩ : Addr) = some (Value.int .i64 x3) ∧
                          (∃ (p9 : Option Addr) (n4 : Nat) (c4 : Nat), w12.drew.cell? (⟨b4, 1, none⟩ : Addr) = some (Value.slice p9 n4 c4) ∧
                          (chk (decide (64 ≤ n4)) (
                          optP p9 fun d6 =>
                          ∃ (cs3 : Array Value), cs3.size = 64 ∧ CellsAt w12.drew d6 cs3.toList ∧
                          (optP (Instr.fill (fun i => [(0, 1), (1, 64)].toArray[i]?) #[(Value.int .i64 0), (Value.int .u8 0), (Value.int .u8 0), (Value.int .u8 0), (Value.int .u8 0), (Value.int .u8 0), (Value.int .u8 0), (Value.int .u8 0), (Value.int .u8 0), (Value.int .u8 0), (Value.int .u8 0), (Value.int .u8 0), (Value.int .u8 0), (Value.int .u8 0), (Value.int .u8 0), (Value.int .u8 0), (Value.int .u8 0), (Value.int .u8 0), (Value.int .u8 0), (Value.int .u8 0), (Value.int .u8 0), (Value.int .u8 0), (Value.int .u8 0), (Value.int .u8 0), (Value.int .u8 0), (Value.int .u8 0), (Value.int .u8 0), (Value.int .u8 0), (Value.int .u8 0), (Value.int .u8 0), (Value.int .u8 0), (Value.int .u8 0), (Value.int .u8 0), (Value.int .u8 0), (Value.int .u8 0), (Value.int .u8 0), (Value.int .u8 0), (Value.int .u8 0), (Value.int .u8 0), (Value.int .u8 0), (Value.int .u8 0), (Value.int .u8 0), (Value.int .u8 0), (Value.int .u8 0), (Value.int .u8 0), (Value.int .u8 0), (Value.int .u8 0), (Value.int .u8 0), (Value.int .u8 0), (Value.int .u8 0), (Value.int .u8 0), (Value.int .u8 0), (Value.int .u8 0), (Value.int .u8 0), (Value.int .u8 0), (Value.int .u8 0), (Value.int .u8 0), (Value.int .u8 0), (Value.int .u8 0), (Value.int .u8 0), (Value.int .u8 0), (Value.int .u8 0), (Value.int .u8 0), (Value.int .u8 0), (Value.int .u8 0)] [(0, (Value.int .i64 x3)), (1, (Value.agg cs3))]) fun cs4 =>
                          optP (Instr.fill (fun i => some (i * 65, 65)) (madeCells #[(Value.int .i64 0), (Value.int .u8 0), (Value.int .u8 0), (Value.int .u8 0), (Value.int .u8 0), (Value.int .u8 0), (Value.int .u8 0), (Value.int .u8 0), (Value.int .u8 0), (Value.int .u8 0), (Value.int .u8 0), (Value.int .u8 0), (Value.int .u8 0), (Value.int .u8 0), (Value.int .u8 0), (Value.int .u8 0), (Value.int .u8 0), (Value.int .u8 0), (Value.int .u8 0), (Value.int .u8 0), (Value.int .u8 0), (Value.int .u8 0), (Value.int .u8 0), (Value.int .u8 0), (Value.int .u8 0), (Value.int .u8 0), (Value.int .u8 0), (Value.int .u8 0), (Value.int .u8 0), (Value.int .u8 0), (Value.int .u8 0), (Value.int .u8 0), (Value.int .u8 0), (Value.int .u8 0), (Value.int .u8 0), (Value.int .u8 0), (Value.int .u8 0), (Value.int .u8 0), (Value.int .u8 0), (Value.int .u8 0), (Value.int .u8 0), (Value.int .u8 0), (Value.int .u8 0), (Value.int .u8 0), (Value.int .u8 0), (Value.int .u8 0), (Value.int .u8 0), (Value.int .u8 0), (Value.int .u8 0), (Value.int .u8 0), (Value.int .u8 0), (Value.int .u8 0), (Value.int .u8 0), (Value.int .u8 0), (Value.int .u8 0), (Value.int .u8 0), (Value.int .u8 0), (Value.int .u8 0), (Value.int .u8 0), (Value.int .u8 0), (Value.int .u8 0), (Value.int .u8 0), (Value.int .u8 0), (Value.int .u8 0), (Value.int .u8 0)] (1 * 65)) [(0, (Value.agg cs4))]) fun cs5 =>
                          newP w12.drew cs5 60 fun b6 w13 =>
                          w13.cell? (d5.add 2) = some (Value.slice p8 n3 c3) ∧
                          (w13.cell? (⟨t2, 0, none⟩ : Addr) = some (Value.pointer p7) ∧
                          (w13.cell? (⟨t2, 0, none⟩ : Addr) = some (Value.pointer p6) ∧
                          (appP w13 p8 n3 c3 1 (CellsO w13 (some ⟨b6, 0, none⟩)) 60 65 72 #[(Value.int .i64 0), (Value.int .u8 0), (Value.int .u8 0), (Value.int .u8 0), (Value.int .u8 0), (Value.int .u8 0), (Value.int .u8 0), (Value.int .u8 0), (Value.int .u8 0), (Value.int .u8 0), (Value.int .u8 0), (Value.int .u8 0), (Value.int .u8 0), (Value.int .u8 0), (Value.int .u8 0), (Value.int .u8 0), (Value.int .u8 0), (Value.int .u8 0), (Value.int .u8 0), (Value.int .u8 0), (Value.int .u8 0), (Value.int .u8 0), (Value.int .u8 0), (Value.int .u8 0), (Value.int .u8 0), (Value.int .u8 0), (Value.int .u8 0), (Value.int .u8 0), (Value.int .u8 0), (Value.int .u8 0), (Value.int .u8 0), (Value.int .u8 0), (Value.int .u8 0), (Value.int .u8 0), (Value.int .u8 0), (Value.int .u8 0), (Value.int .u8 0), (Value.int .u8 0), (Value.int .u8 0), (Value.int .u8 0), (Value.int .u8 0), (Value.int .u8 0), (Value.int .u8 0), (Value.int .u8 0), (Value.int .u8 0), (Value.int .u8 0), (Value.int .u8 0), (Value.int .u8 0), (Value.int .u8 0), (Value.int .u8 0), (Value.int .u8 0), (Value.int .u8 0), (Value.int .u8 0), (Value.int .u8 0), (Value.int .u8 0), (Value.int .u8 0), (Value.int .u8 0), (Value.int .u8 0), (Value.int .u8 0), (Value.int .u8 0), (Value.int .u8 0), (Value.int .u8 0), (Value.int .u8 0), (Value.int .u8 0), (Value.int .u8 0)] fun p10 c5 w14 =>
                          w14.cell? (⟨t2, 0, none⟩ : Addr) = some (Value.pointer p6) ∧
                          (optP p6 fun d7 =>
                          (w14.cell? (d7.add 2)).isSome = true ∧ w14.frozen? (d7.add 2) = false ∧ ∀ w15, w15 = w14.setCell (d7.add 2) (Value.slice p10 (n3 + 1) c5) →
                          (C1 t2 t18p t18n t18c t19 (IntKind.i64.wrap (t20 + 1)) w15)))))))))))))))))))))))) (fun ch w11 => R (.panicked ch) w11)))))))) (
    R (.returned (Value.int .i64 0)) w)
def basin_Basin_Put.l1 (t2 : Nat) (t18p : Option Addr) (t18n : Nat) (t18c : Nat) (t19 : Int) (t20 : Int) (w : World) (R : Ending → World → Prop) : Prop :=
  ∃ (I : Nat → Option Addr → Nat → Nat → Int → Int → World → Prop) (m : Nat → Option Addr → Nat → Nat → Int → Int → World → Nat), I t2 t18p t18n t18c t19 t20 w ∧
  ∀ (t2 : Nat) (t18p : Option Addr) (t18n : Nat) (t18c : Nat) (t19 : Int) (t20 : Int) (w : World), I t2 t18p t18n t18c t19 t20 w →
  basin_Basin_Put.b1 t2 t18p t18n t18c t19 t20 w R (fun t2' t18p' t18n' t18c' t19' t20' w' => I t2' t18p' t18n' t18c' t19' t20' w' ∧ m t2' t18p' t18n' t18c' t19' t20' w' < m t2 t18p t18n t18c t19 t20 w)
def basin_Basin_Put.main (a0 : Option Addr) (a1p : Option Addr) (a1n : Nat) (a1c : Nat) (w : World) (R : Ending → World → Prop) : Prop :=
  newP w #[(Value.pointer a0)] 23 fun b1 w1 =>
  ∃ (p1 : Option Addr), w1.cell? (⟨b1, 0, none⟩ : Addr) = some (Value.pointer p1) ∧
  (callP Try.prog 15 #[(Value.pointer p1)] w1 (fun v1 w2 =>
      dI .i64 v1 fun x1 =>
      cond (x1 != 0) (
        R (.returned (Value.int .i64 x1)) w2) (
        callP Try.prog 16 #[(Value.slice a1p a1n a1c), (Value.func (.func 17) #[] #[])] w2 (fun v2 w4 =>
          dB v2 fun b2 =>
          cond b2 (
            R (.returned (Value.int .i64 6)) w4) (
            callP Try.prog 16 #[(Value.slice a1p a1n a1c), (Value.func (.func 18) #[] #[(Value.pointer (some (⟨b1, 0, none⟩ : Addr)))])] w4 (fun v3 w6 =>
              dB v3 fun b3 =>
              cond b3 (
                R (.returned (Value.int .i64 5)) w6) (
                basin_Basin_Put.l1 b1 a1p a1n a1c ((a1n : Nat) : Int) 0 w6 R)) (fun ch w7 => R (.panicked ch) w7))) (fun ch w5 => R (.panicked ch) w5))) (fun ch w3 => R (.panicked ch) w3))
abbrev basin_Basin_Put.C (a0 : Option Addr) (a1p : Option Addr) (a1n : Nat) (a1c : Nat) (w : World) (R : Ending → World → Prop) : Prop := Calls Try.prog 7 #[(Value.pointer a0), (Value.slice a1p a1n a1c)] w R
noncomputable def basin_Basin_Put.code : Code := (Try.f7.body).getD .skip
noncomputable def basin_Basin_Put.sk (R : Ending → World → Prop) : Sk := (.seq .leaf (.seq .leaf (.seq .leaf (.seq .leaf (.seq (.seq .leaf (.block (.loop [(2, .blk), (18, .slice), (19, .int .i64), (20, .int .i64)] (fun (t2 : Nat) (t18p : Option Addr) (t18n : Nat) (t18c : Nat) (t19 : Int) (t20 : Int) (w : World) => basin_Basin_Put.l1 t2 t18p t18n t18c t19 t20 w R) (fun (C1 : Nat → Option Addr → Nat → Nat → Int → Int → World → Prop) => .leaf)))) .leaf)))))
def basin_Basin_Put.owed (R : Ending → World → Prop) : Prop :=
  (∀ (t2 : Nat) (t18p : Option Addr) (t18n : Nat) (t18c : Nat) (t19 : Int) (t20 : Int) (w : World), basin_Basin_Put.l1 t2 t18p t18n t18c t19 t20 w R → basin_Basin_Put.l1 t2 t18p t18n t18c t19 t20 w R) ∧ (∀ (C1 : Nat → Option Addr → Nat → Nat → Int → Int → World → Prop), True) ∧ True
theorem basin_Basin_Put.pays (R : Ending → World → Prop) : basin_Basin_Put.owed R := ⟨(fun _ _ _ _ _ _ _ h => h), (fun _ => trivial), trivial⟩
set_option maxRecDepth 100000 in
theorem basin_Basin_Put.ok {a0 : Option Addr} {a1p : Option Addr} {a1n : Nat} {a1c : Nat} {w : World} {R : Ending → World → Prop} (h : basin_Basin_Put.main a0 a1p a1n a1c w R) : basin_Basin_Put.C a0 a1p a1n a1c w R :=
  ev_ok cxok (c := cx) Try.func7 (code := basin_Basin_Put.code) (by kernel_rfl) [.tmp 4] (by kernel_rfl) 54 (by kernel_rfl) (basin_Basin_Put.sk R) (args := [(Value.pointer a0), (Value.slice a1p a1n a1c)]) (Nat.le_of_ble_eq_true rfl) (by kernel_rfl) (o := basin_Basin_Put.owed R) (by kernel_rfl) (basin_Basin_Put.pays R) h

/-! ### stopcock/spool.Load: function 8 -/
def spool_Load.b1 (t0 : Option Addr) (t1 : Int) (t7p : Option Addr) (t7n : Nat) (t7c : Nat) (t23 : Int) (w : World) (R : Ending → World → Prop) (C1 : Option Addr → Int → Option Addr → Nat → Nat → Int → World → Prop) : Prop :=
  cond (decide (t23 < 16)) (
    callP Try.prog 9 #[(Value.pointer t0), (Value.int .i64 (IntKind.i64.wrap (24 + t23)))] w (fun v1 w1 =>
      dT v1 fun vs1 =>
      optP (vs1[0]?) fun v2 =>
      dS v2 fun p1 n1 c1 =>
      optP (vs1[1]?) fun v3 =>
      dI .i64 v3 fun x1 =>
      cond (x1 != 0) (
        R (.returned (Value.tuple #[(Value.slice none 0 0), (Value.int .i64 0), (Value.int .i64 x1)])) w1) (
        callP Try.prog 20 #[(Value.slice p1 n1 c1), (Value.int .i64 t1), (Value.int .i64 t23)] w1 (fun v4 w3 =>
          dT v4 fun vs2 =>
          optP (vs2[0]?) fun v5 =>
          dS v5 fun p2 n2 c2 =>
          optP (vs2[1]?) fun v6 =>
          dB v6 fun b1 =>
          cond (!b1) (
            R (.returned (Value.tuple #[(Value.slice t7p t7n t7c), (Value.int .i64 t23), (Value.int .i64 0)])) w3) (
            appP w3 t7p t7n t7c n2 (CellsO w3 p2) 52 5 48 #[(Value.int .i64 0), (Value.int .i64 0), (Value.int .i64 0), (Value.int .i64 0), (Value.complex .f64 0 0)] fun p3 c3 w5 =>
            C1 t0 t1 p3 (t7n + n2) c3 (IntKind.i64.wrap (t23 + 1)) w5)) (fun ch w4 => R (.panicked ch) w4))) (fun ch w2 => R (.panicked ch) w2)) (
    R (.returned (Value.tuple #[(Value.slice t7p t7n t7c), (Value.int .i64 16), (Value.int .i64 0)])) w)
def spool_Load.l1 (t0 : Option Addr) (t1 : Int) (t7p : Option Addr) (t7n : Nat) (t7c : Nat) (t23 : Int) (w : World) (R : Ending → World → Prop) : Prop :=
  ∃ (I : Option Addr → Int → Option Addr → Nat → Nat → Int → World → Prop) (m : Option Addr → Int → Option Addr → Nat → Nat → Int → World → Nat), I t0 t1 t7p t7n t7c t23 w ∧
  ∀ (t0 : Option Addr) (t1 : Int) (t7p : Option Addr) (t7n : Nat) (t7c : Nat) (t23 : Int) (w : World), I t0 t1 t7p t7n t7c t23 w →
  spool_Load.b1 t0 t1 t7p t7n t7c t23 w R (fun t0' t1' t7p' t7n' t7c' t23' w' => I t0' t1' t7p' t7n' t7c' t23' w' ∧ m t0' t1' t7p' t7n' t7c' t23' w' < m t0 t1 t7p t7n t7c t23 w)
def spool_Load.main (a0 : Option Addr) (a1 : Int) (w : World) (R : Ending → World → Prop) : Prop :=
  cond (Option.isNone a0) (
    R (.returned (Value.tuple #[(Value.slice none 0 0), (Value.int .i64 0), (Value.int .i64 1)])) w) (
    cond (decide (a1 < 1)) (
      R (.returned (Value.tuple #[(Value.slice none 0 0), (Value.int .i64 0), (Value.int .i64 1)])) w) (
      cond (decide (a1 > 1073741824)) (
        R (.returned (Value.tuple #[(Value.slice none 0 0), (Value.int .i64 0), (Value.int .i64 1)])) w) (
        spool_Load.l1 a0 a1 none 0 0 0 w R)))
abbrev spool_Load.C (a0 : Option Addr) (a1 : Int) (w : World) (R : Ending → World → Prop) : Prop := Calls Try.prog 8 #[(Value.pointer a0), (Value.int .i64 a1)] w R
noncomputable def spool_Load.code : Code := (Try.f8.body).getD .skip
noncomputable def spool_Load.sk (R : Ending → World → Prop) : Sk := (.seq .leaf (.seq .leaf (.seq .leaf (.seq (.seq .leaf (.block (.loop [(0, .ptr), (1, .int .i64), (7, .slice), (23, .int .i64)] (fun (t0 : Option Addr) (t1 : Int) (t7p : Option Addr) (t7n : Nat) (t7c : Nat) (t23 : Int) (w : World) => spool_Load.l1 t0 t1 t7p t7n t7c t23 w R) (fun (C1 : Option Addr → Int → Option Addr → Nat → Nat → Int → World → Prop) => .leaf)))) .leaf))))
def spool_Load.owed (R : Ending → World → Prop) : Prop :=
  (∀ (t0 : Option Addr) (t1 : Int) (t7p : Option Addr) (t7n : Nat) (t7c : Nat) (t23 : Int) (w : World), spool_Load.l1 t0 t1 t7p t7n t7c t23 w R → spool_Load.l1 t0 t1 t7p t7n t7c t23 w R) ∧ (∀ (C1 : Option Addr → Int → Option Addr → Nat → Nat → Int → World → Prop), True) ∧ True
theorem spool_Load.pays (R : Ending → World → Prop) : spool_Load.owed R := ⟨(fun _ _ _ _ _ _ _ h => h), (fun _ => trivial), trivial⟩
set_option maxRecDepth 100000 in
theorem spool_Load.ok {a0 : Option Addr} {a1 : Int} {w : World} {R : Ending → World → Prop} (h : spool_Load.main a0 a1 w R) : spool_Load.C a0 a1 w R :=
  ev_ok cxok (c := cx) Try.func8 (code := spool_Load.code) (by kernel_rfl) [.tmp 4, .tmp 5, .tmp 6] (by kernel_rfl) 52 (by kernel_rfl) (spool_Load.sk R) (args := [(Value.pointer a0), (Value.int .i64 a1)]) (Nat.le_of_ble_eq_true rfl) (by kernel_rfl) (o := spool_Load.owed R) (by kernel_rfl) (spool_Load.pays R) h

/-! ### (*stopcock/basin.Basin).Get: function 9 -/
def basin_Basin_Get.main (a0 : Option Addr) (a1 : Int) (w : World) (R : Ending → World → Prop) : Prop :=
  callP Try.prog 15 #[(Value.pointer a0)] w (fun v1 w1 =>
    dI .i64 v1 fun x1 =>
    cond (x1 != 0) (
      R (.returned (Value.tuple #[(Value.slice none 0 0), (Value.int .i64 x1)])) w1) (
      cond (decide (a1 < 0)) (
        R (.returned (Value.tuple #[(Value.slice none 0 0), (Value.int .i64 5)])) w1) (
        optP a0 fun d1 =>
        ∃ (p1 : Option Addr) (n1 : Nat) (c1 : Nat), w1.cell? (d1.add 1) = some (Value.slice p1 n1 c1) ∧
        (cond (decide (a1 ≥ ((n1 : Nat) : Int))) (
            R (.returned (Value.tuple #[(Value.slice none 0 0), (Value.int .i64 5)])) w1) (
            optP a0 fun d2 =>
            ∃ (p2 : Option Addr) (n2 : Nat) (c2 : Nat), w1.cell? (d2.add 1) = some (Value.slice p2 n2 c2) ∧
            (chk (decide (0 ≤ a1)) (
                chk (decide (a1 < ((n2 : Nat) : Int))) (
                  optP p2 fun d3 =>
                  callP Try.prog 21 #[(Value.slice (slA (some (d3.add (a1.toNat * 64))) 64 0 1) 64 64)] w1 (fun v2 w3 =>
                    dS v2 fun p3 n3 c3 =>
                    R (.returned (Value.tuple #[(Value.slice p3 n3 c3), (Value.int .i64 0)])) w3) (fun ch w4 => R (.panicked ch) w4))))))))) (fun ch w2 => R (.panicked ch) w2)
abbrev basin_Basin_Get.C (a0 : Option Addr) (a1 : Int) (w : World) (R : Ending → World → Prop) : Prop := Calls Try.prog 9 #[(Value.pointer a0), (Value.int .i64 a1)] w R
noncomputable def basin_Basin_Get.code : Code := (Try.f9.body).getD .skip
noncomputable def basin_Basin_Get.sk (R : Ending → World → Prop) : Sk := .leaf
def basin_Basin_Get.owed (R : Ending → World → Prop) : Prop :=
  True
theorem basin_Basin_Get.pays (R : Ending → World → Prop) : basin_Basin_Get.owed R := trivial
set_option maxRecDepth 100000 in
theorem basin_Basin_Get.ok {a0 : Option Addr} {a1 : Int} {w : World} {R : Ending → World → Prop} (h : basin_Basin_Get.main a0 a1 w R) : basin_Basin_Get.C a0 a1 w R :=
  ev_ok cxok (c := cx) Try.func9 (code := basin_Basin_Get.code) (by kernel_rfl) [.tmp 4, .tmp 5] (by kernel_rfl) 31 (by kernel_rfl) (basin_Basin_Get.sk R) (args := [(Value.pointer a0), (Value.int .i64 a1)]) (Nat.le_of_ble_eq_true rfl) (by kernel_rfl) (o := basin_Basin_Get.owed R) (by kernel_rfl) (basin_Basin_Get.pays R) h

/-! ### stopcock/spool.Sectors: function 13 -/
def spool_Sectors.main (a0 : Int) (w : World) (R : Ending → World → Prop) : Prop :=
  cond (decide (a0 < 0)) (
    R (.returned (Value.tuple #[(Value.int .i64 0), (Value.int .i64 1)])) w) (
    cond (decide (a0 > 96)) (
      R (.returned (Value.tuple #[(Value.int .i64 0), (Value.int .i64 1)])) w) (
      R (.returned (Value.tuple #[(Value.int .i64 (IntKind.i64.wrap (Int.tdiv (IntKind.i64.wrap ((IntKind.i64.wrap (a0 + 6)) - 1)) 6))), (Value.int .i64 0)])) w))
abbrev spool_Sectors.C (a0 : Int) (w : World) (R : Ending → World → Prop) : Prop := Calls Try.prog 13 #[(Value.int .i64 a0)] w R
noncomputable def spool_Sectors.code : Code := (Try.f13.body).getD .skip
noncomputable def spool_Sectors.sk (R : Ending → World → Prop) : Sk := .leaf
def spool_Sectors.owed (R : Ending → World → Prop) : Prop :=
  True
theorem spool_Sectors.pays (R : Ending → World → Prop) : spool_Sectors.owed R := trivial
set_option maxRecDepth 100000 in
theorem spool_Sectors.ok {a0 : Int} {w : World} {R : Ending → World → Prop} (h : spool_Sectors.main a0 w R) : spool_Sectors.C a0 w R :=
  ev_ok cxok (c := cx) Try.func13 (code := spool_Sectors.code) (by kernel_rfl) [.tmp 2, .tmp 3] (by kernel_rfl) 14 (by kernel_rfl) (spool_Sectors.sk R) (args := [(Value.int .i64 a0)]) (Nat.le_of_ble_eq_true rfl) (by kernel_rfl) (o := spool_Sectors.owed R) (by kernel_rfl) (spool_Sectors.pays R) h

/-! ### stopcock/spool.Save: function 14 -/
def spool_Save.k1 (t3p : Option Addr) (t3n : Nat) (t3c : Nat) (t4 : Nat) (t5 : Nat) (t6 : Nat) (t8 : Nat) (t9 : Nat) (w : World) (R : Ending → World → Prop) : Prop :=
  ∃ (x18 : Int), w.cell? (⟨t6, 0, none⟩ : Addr) = some (Value.int .i64 x18) ∧
  (cond (decide (((t3n : Nat) : Int) > (IntKind.i64.wrap ((IntKind.i64.wrap (16 - x18)) * 6)))) (
      (w.cell? (⟨t8, 0, none⟩ : Addr)).isSome = true ∧ w.frozen? (⟨t8, 0, none⟩ : Addr) = false ∧ ∀ w22, w22 = w.setCell (⟨t8, 0, none⟩ : Addr) (Value.int .i64 0) →
      ((w22.cell? (⟨t9, 0, none⟩ : Addr)).isSome = true ∧ w22.frozen? (⟨t9, 0, none⟩ : Addr) = false ∧ ∀ w23, w23 = w22.setCell (⟨t9, 0, none⟩ : Addr) (Value.int .i64 7) →
        (∃ (x19 : Int), w23.cell? (⟨t8, 0, none⟩ : Addr) = some (Value.int .i64 x19) ∧
          (∃ (x20 : Int), w23.cell? (⟨t9, 0, none⟩ : Addr) = some (Value.int .i64 x20) ∧
            (R (.returned (Value.tuple #[(Value.int .i64 x19), (Value.int .i64 x20)])) w23))))) (
      callP Try.prog 28 #[(Value.slice t3p t3n t3c), (Value.int .i64 6)] w (fun v2 w24 =>
        dFn v2 fun gf fi lb =>
        chk (Nat.beq fi.size 0 && cx.fns.contains gf && true && true && true && true) (
          ∃ (α : Type) (enc : α → Value) (Kq : World → World → Prop) (S Sp : List α → Prop) (N : Nat) (I Ix : List α → World → Prop), RFok Try.prog gf lb enc Kq S Sp N I Ix w24 ∧
          ((∀ (pre : List α) (x : α) (w26 : World), I pre w26 → pre.length < N →
              dS (enc x) fun p2 n1 c1 =>
              ∃ (x21 : Int), w26.cell? (⟨t5, 0, none⟩ : Addr) = some (Value.int .i64 x21) ∧
              (∃ (x22 : Int), w26.cell? (⟨t6, 0, none⟩ : Addr) = some (Value.int .i64 x22) ∧
                (callP Try.prog 29 #[(Value.int .i64 x21), (Value.int .i64 x22), (Value.slice p2 n1 c1)] w26 (fun v3 w29 =>
                    dT v3 fun vs1 =>
                    optP (vs1[0]?) fun v4 =>
                    dS v4 fun p3 n2 c2 =>
                    optP (vs1[1]?) fun v5 =>
                    dI .i64 v5 fun x23 =>
                    cond (x23 == 0) (
                      ∃ (p4 : Option Addr), w29.cell? (⟨t4, 0, none⟩ : Addr) = some (Value.pointer p4) ∧
                      (∃ (x24 : Int), w29.cell? (⟨t6, 0, none⟩ : Addr) = some (Value.int .i64 x24) ∧
                        (newP w29 #[(Value.int .i64 (IntKind.i64.wrap (24 + x24))), (Value.slice p3 n2 c2)] 31 fun b7 w31 =>
                          callP Try.prog 7 #[(Value.pointer p4), (Value.slice (some ⟨b7, 0, none⟩) 1 1)] w31 (fun v6 w32 =>
                          dI .i64 v6 fun x25 =>
                          cond (x25 != 0) (
                          (w32.cell? (⟨t8, 0, none⟩ : Addr)).isSome = true ∧ w32.frozen? (⟨t8, 0, none⟩ : Addr) = false ∧ ∀ w34, w34 = w32.setCell (⟨t8, 0, none⟩ : Addr) (Value.int .i64 0) →
                          ((w34.cell? (⟨t9, 0, none⟩ : Addr)).isSome = true ∧ w34.frozen? (⟨t9, 0, none⟩ : Addr) = false ∧ ∀ w35, w35 = w34.setCell (⟨t9, 0, none⟩ : Addr) (Value.int .i64 x25) →
                          (KeepsOthers w26 w35 ∧ Ix (pre ++ [x]) w35))) (
                          ∃ (x26 : Int), w32.cell? (⟨t6, 0, none⟩ : Addr) = some (Value.int .i64 x26) ∧
                          ((w32.cell? (⟨t6, 0, none⟩ : Addr)).isSome = true ∧ w32.frozen? (⟨t6, 0, none⟩ : Addr) = false ∧ ∀ w36, w36 = w32.setCell (⟨t6, 0, none⟩ : Addr) (Value.int .i64 (IntKind.i64.wrap (x26 + 1))) →
                          (KeepsOthers w26 w36 ∧ Kq w26 w36 ∧ I (pre ++ [x]) w36)))) (fun ch w33 => False)))) (
                      cond (x23 != 0) (
                        (w29.cell? (⟨t8, 0, none⟩ : Addr)).isSome = true ∧ w29.frozen? (⟨t8, 0, none⟩ : Addr) = false ∧ ∀ w37, w37 = w29.setCell (⟨t8, 0, none⟩ : Addr) (Value.int .i64 0) →
                        ((w37.cell? (⟨t9, 0, none⟩ : Addr)).isSome = true ∧ w37.frozen? (⟨t9, 0, none⟩ : Addr) = false ∧ ∀ w38, w38 = w37.setCell (⟨t9, 0, none⟩ : Addr) (Value.int .i64 x23) →
                          (KeepsOthers w26 w38 ∧ Ix (pre ++ [x]) w38))) (
                        ∃ (x27 : Int), w29.cell? (⟨t6, 0, none⟩ : Addr) = some (Value.int .i64 x27) ∧
                        ((w29.cell? (⟨t6, 0, none⟩ : Addr)).isSome = true ∧ w29.frozen? (⟨t6, 0, none⟩ : Addr) = false ∧ ∀ w39, w39 = w29.setCell (⟨t6, 0, none⟩ : Addr) (Value.int .i64 (IntKind.i64.wrap (x27 + 1))) →
                          (KeepsOthers w26 w39 ∧ Kq w26 w39 ∧ I (pre ++ [x]) w39))))) (fun ch w30 => False)))) ∧
            ((∀ (D : Nat) (xs : List α) (w27 : World), w24.heap.size ≤ D → S xs → I xs w27 → w27.heap[D]? = some (Obj.deferred (some [])) →
                ∃ (x28 : Int), w27.cell? (⟨t6, 0, none⟩ : Addr) = some (Value.int .i64 x28) ∧
                ((w27.cell? (⟨t8, 0, none⟩ : Addr)).isSome = true ∧ w27.frozen? (⟨t8, 0, none⟩ : Addr) = false ∧ ∀ w40, w40 = w27.setCell (⟨t8, 0, none⟩ : Addr) (Value.int .i64 x28) →
                  ((w40.cell? (⟨t9, 0, none⟩ : Addr)).isSome = true ∧ w40.frozen? (⟨t9, 0, none⟩ : Addr) = false ∧ ∀ w41, w41 = w40.setCell (⟨t9, 0, none⟩ : Addr) (Value.int .i64 0) →
                    (w41.heap[D]? = some (Obj.deferred (some [])) ∧
                      ∃ (x29 : Int), (w41.putObj D (Obj.deferred none)).cell? (⟨t8, 0, none⟩ : Addr) = some (Value.int .i64 x29) ∧
                      (∃ (x30 : Int), (w41.putObj D (Obj.deferred none)).cell? (⟨t9, 0, none⟩ : Addr) = some (Value.int .i64 x30) ∧
                        (R (.returned (Value.tuple #[(Value.int .i64 x29), (Value.int .i64 x30)])) (w41.putObj D (Obj.deferred none)))))))) ∧
              (∀ (D : Nat) (pre : List α) (w28 : World), w24.heap.size ≤ D → Sp pre → Ix pre w28 → w28.heap[D]? = some (Obj.deferred (some [])) →
                w28.heap[D]? = some (Obj.deferred (some [])) ∧
                ∃ (x31 : Int), (w28.putObj D (Obj.deferred none)).cell? (⟨t8, 0, none⟩ : Addr) = some (Value.int .i64 x31) ∧
                (∃ (x32 : Int), (w28.putObj D (Obj.deferred none)).cell? (⟨t9, 0, none⟩ : Addr) = some (Value.int .i64 x32) ∧
                  (R (.returned (Value.tuple #[(Value.int .i64 x31), (Value.int .i64 x32)])) (w28.putObj D (Obj.deferred none))))))))) (fun ch w25 => R (.panicked ch) w25)))
def spool_Save.b1 (t3p : Option Addr) (t3n : Nat) (t3c : Nat) (t4 : Nat) (t5 : Nat) (t6 : Nat) (t8 : Nat) (t9 : Nat) (t34p : Option Addr) (t34n : Nat) (t34c : Nat) (t35 : Int) (t36 : Int) (w : World) (R : Ending → World → Prop) (C1 : Option Addr → Nat → Nat → Nat → Nat → Nat → Nat → Nat → Option Addr → Nat → Nat → Int → Int → World → Prop) : Prop :=
  cond (decide (t36 < t35)) (
    chk (decide (0 ≤ t36)) (
      chk (decide (t36 < ((t34n : Nat) : Int))) (
        optP t34p fun d1 =>
        ∃ (cs1 : Array Value), cs1.size = 5 ∧ CellsAt w (d1.add (t36.toNat * 5)) cs1.toList ∧
        (newP w #[(Value.int .i64 0), (Value.int .i64 0), (Value.int .i64 0), (Value.int .i64 0), (Value.complex .f64 0 0)] 52 fun b6 w16 =>
          chk (decide (cs1.size = 5)) (
            Wr w16 (⟨b6, 0, none⟩ : Addr) cs1.toList ∧ ∀ w17, w17 = w16.setCells (⟨b6, 0, none⟩ : Addr).block (⟨b6, 0, none⟩ : Addr).off cs1.toList →
            (∃ (cs2 : Array Value), cs2.size = 5 ∧ CellsAt w17 (⟨b6, 0, none⟩ : Addr) cs2.toList ∧
              (callP Try.prog 27 #[(Value.agg cs2)] w17 (fun v1 w18 =>
                  dI .i64 v1 fun x15 =>
                  cond (x15 != 0) (
                    (w18.cell? (⟨t8, 0, none⟩ : Addr)).isSome = true ∧ w18.frozen? (⟨t8, 0, none⟩ : Addr) = false ∧ ∀ w20, w20 = w18.setCell (⟨t8, 0, none⟩ : Addr) (Value.int .i64 0) →
                    ((w20.cell? (⟨t9, 0, none⟩ : Addr)).isSome = true ∧ w20.frozen? (⟨t9, 0, none⟩ : Addr) = false ∧ ∀ w21, w21 = w20.setCell (⟨t9, 0, none⟩ : Addr) (Value.int .i64 x15) →
                      (∃ (x16 : Int), w21.cell? (⟨t8, 0, none⟩ : Addr) = some (Value.int .i64 x16) ∧
                        (∃ (x17 : Int), w21.cell? (⟨t9, 0, none⟩ : Addr) = some (Value.int .i64 x17) ∧
                          (R (.returned (Value.tuple #[(Value.int .i64 x16), (Value.int .i64 x17)])) w21))))) (
                    C1 t3p t3n t3c t4 t5 t6 t8 t9 t34p t34n t34c t35 (IntKind.i64.wrap (t36 + 1)) w18)) (fun ch w19 => R (.panicked ch) w19)))))))) (
    spool_Save.k1 t3p t3n t3c t4 t5 t6 t8 t9 w R)
def spool_Save.l1 (t3p : Option Addr) (t3n : Nat) (t3c : Nat) (t4 : Nat) (t5 : Nat) (t6 : Nat) (t8 : Nat) (t9 : Nat) (t34p : Option Addr) (t34n : Nat) (t34c : Nat) (t35 : Int) (t36 : Int) (w : World) (R : Ending → World → Prop) : Prop :=
  ∃ (I : Option Addr → Nat → Nat → Nat → Nat → Nat → Nat → Nat → Option Addr → Nat → Nat → Int → Int → World → Prop) (m : Option Addr → Nat → Nat → Nat → Nat → Nat → Nat → Nat → Option Addr → Nat → Nat → Int → Int → World → Nat), I t3p t3n t3c t4 t5 t6 t8 t9 t34p t34n t34c t35 t36 w ∧
  ∀ (t3p : Option Addr) (t3n : Nat) (t3c : Nat) (t4 : Nat) (t5 : Nat) (t6 : Nat) (t8 : Nat) (t9 : Nat) (t34p : Option Addr) (t34n : Nat) (t34c : Nat) (t35 : Int) (t36 : Int) (w : World), I t3p t3n t3c t4 t5 t6 t8 t9 t34p t34n t34c t35 t36 w →
  spool_Save.b1 t3p t3n t3c t4 t5 t6 t8 t9 t34p t34n t34c t35 t36 w R (fun t3p' t3n' t3c' t4' t5' t6' t8' t9' t34p' t34n' t34c' t35' t36' w' => I t3p' t3n' t3c' t4' t5' t6' t8' t9' t34p' t34n' t34c' t35' t36' w' ∧ m t3p' t3n' t3c' t4' t5' t6' t8' t9' t34p' t34n' t34c' t35' t36' w' < m t3p t3n t3c t4 t5 t6 t8 t9 t34p t34n t34c t35 t36 w)
def spool_Save.main (a0 : Option Addr) (a1 : Int) (a2 : Int) (a3p : Option Addr) (a3n : Nat) (a3c : Nat) (w : World) (R : Ending → World → Prop) : Prop :=
  newP w #[(Value.pointer a0)] 23 fun b1 w1 =>
  newP w1 #[(Value.int .i64 a1)] 3 fun b2 w2 =>
  newP w2 #[(Value.int .i64 a2)] 3 fun b3 w3 =>
  newP w3 #[(Value.int .i64 0)] 3 fun b4 w4 =>
  newP w4 #[(Value.int .i64 0)] 24 fun b5 w5 =>
  ∃ (p1 : Option Addr), w5.cell? (⟨b1, 0, none⟩ : Addr) = some (Value.pointer p1) ∧
  (cond (Option.isNone p1) (
      (w5.cell? (⟨b4, 0, none⟩ : Addr)).isSome = true ∧ w5.frozen? (⟨b4, 0, none⟩ : Addr) = false ∧ ∀ w6, w6 = w5.setCell (⟨b4, 0, none⟩ : Addr) (Value.int .i64 0) →
      ((w6.cell? (⟨b5, 0, none⟩ : Addr)).isSome = true ∧ w6.frozen? (⟨b5, 0, none⟩ : Addr) = false ∧ ∀ w7, w7 = w6.setCell (⟨b5, 0, none⟩ : Addr) (Value.int .i64 1) →
        (∃ (x5 : Int), w7.cell? (⟨b4, 0, none⟩ : Addr) = some (Value.int .i64 x5) ∧
          (∃ (x6 : Int), w7.cell? (⟨b5, 0, none⟩ : Addr) = some (Value.int .i64 x6) ∧
            (R (.returned (Value.tuple #[(Value.int .i64 x5), (Value.int .i64 x6)])) w7))))) (
      ∃ (x1 : Int), w5.cell? (⟨b2, 0, none⟩ : Addr) = some (Value.int .i64 x1) ∧
      (cond (decide (x1 < 1)) (
          (w5.cell? (⟨b4, 0, none⟩ : Addr)).isSome = true ∧ w5.frozen? (⟨b4, 0, none⟩ : Addr) = false ∧ ∀ w8, w8 = w5.setCell (⟨b4, 0, none⟩ : Addr) (Value.int .i64 0) →
          ((w8.cell? (⟨b5, 0, none⟩ : Addr)).isSome = true ∧ w8.frozen? (⟨b5, 0, none⟩ : Addr) = false ∧ ∀ w9, w9 = w8.setCell (⟨b5, 0, none⟩ : Addr) (Value.int .i64 1) →
            (∃ (x7 : Int), w9.cell? (⟨b4, 0, none⟩ : Addr) = some (Value.int .i64 x7) ∧
              (∃ (x8 : Int), w9.cell? (⟨b5, 0, none⟩ : Addr) = some (Value.int .i64 x8) ∧
                (R (.returned (Value.tuple #[(Value.int .i64 x7), (Value.int .i64 x8)])) w9))))) (
          ∃ (x2 : Int), w5.cell? (⟨b2, 0, none⟩ : Addr) = some (Value.int .i64 x2) ∧
          (cond (decide (x2 > 1073741824)) (
              (w5.cell? (⟨b4, 0, none⟩ : Addr)).isSome = true ∧ w5.frozen? (⟨b4, 0, none⟩ : Addr) = false ∧ ∀ w10, w10 = w5.setCell (⟨b4, 0, none⟩ : Addr) (Value.int .i64 0) →
              ((w10.cell? (⟨b5, 0, none⟩ : Addr)).isSome = true ∧ w10.frozen? (⟨b5, 0, none⟩ : Addr) = false ∧ ∀ w11, w11 = w10.setCell (⟨b5, 0, none⟩ : Addr) (Value.int .i64 1) →
                (∃ (x9 : Int), w11.cell? (⟨b4, 0, none⟩ : Addr) = some (Value.int .i64 x9) ∧
                  (∃ (x10 : Int), w11.cell? (⟨b5, 0, none⟩ : Addr) = some (Value.int .i64 x10) ∧
                    (R (.returned (Value.tuple #[(Value.int .i64 x9), (Value.int .i64 x10)])) w11))))) (
              ∃ (x3 : Int), w5.cell? (⟨b3, 0, none⟩ : Addr) = some (Value.int .i64 x3) ∧
              (cond (decide (x3 < 0)) (
                  (w5.cell? (⟨b4, 0, none⟩ : Addr)).isSome = true ∧ w5.frozen? (⟨b4, 0, none⟩ : Addr) = false ∧ ∀ w12, w12 = w5.setCell (⟨b4, 0, none⟩ : Addr) (Value.int .i64 0) →
                  ((w12.cell? (⟨b5, 0, none⟩ : Addr)).isSome = true ∧ w12.frozen? (⟨b5, 0, none⟩ : Addr) = false ∧ ∀ w13, w13 = w12.setCell (⟨b5, 0, none⟩ : Addr) (Value.int .i64 1) →
                    (∃ (x11 : Int), w13.cell? (⟨b4, 0, none⟩ : Addr) = some (Value.int .i64 x11) ∧
                      (∃ (x12 : Int), w13.cell? (⟨b5, 0, none⟩ : Addr) = some (Value.int .i64 x12) ∧
                        (R (.returned (Value.tuple #[(Value.int .i64 x11), (Value.int .i64 x12)])) w13))))) (
                  ∃ (x4 : Int), w5.cell? (⟨b3, 0, none⟩ : Addr) = some (Value.int .i64 x4) ∧
                  (cond (decide (x4 > 16)) (
                      (w5.cell? (⟨b4, 0, none⟩ : Addr)).isSome = true ∧ w5.frozen? (⟨b4, 0, none⟩ : Addr) = false ∧ ∀ w14, w14 = w5.setCell (⟨b4, 0, none⟩ : Addr) (Value.int .i64 0) →
                      ((w14.cell? (⟨b5, 0, none⟩ : Addr)).isSome = true ∧ w14.frozen? (⟨b5, 0, none⟩ : Addr) = false ∧ ∀ w15, w15 = w14.setCell (⟨b5, 0, none⟩ : Addr) (Value.int .i64 1) →
                        (∃ (x13 : Int), w15.cell? (⟨b4, 0, none⟩ : Addr) = some (Value.int .i64 x13) ∧
                          (∃ (x14 : Int), w15.cell? (⟨b5, 0, none⟩ : Addr) = some (Value.int .i64 x14) ∧
                          (R (.returned (Value.tuple #[(Value.int .i64 x13), (Value.int .i64 x14)])) w15))))) (
                      spool_Save.l1 a3p a3n a3c b1 b2 b3 b4 b5 a3p a3n a3c ((a3n : Nat) : Int) 0 w5 R))))))))))
abbrev spool_Save.C (a0 : Option Addr) (a1 : Int) (a2 : Int) (a3p : Option Addr) (a3n : Nat) (a3c : Nat) (w : World) (R : Ending → World → Prop) : Prop := Calls Try.prog 14 #[(Value.pointer a0), (Value.int .i64 a1), (Value.int .i64 a2), (Value.slice a3p a3n a3c)] w R
noncomputable def spool_Save.code : Code := (Try.f14.body).getD .skip
noncomputable def spool_Save.sk (R : Ending → World → Prop) : TSk := (.seq .leaf (.seq .leaf (.cut [(3, .slice), (4, .blk), (5, .blk), (6, .blk), (8, .blk), (9, .blk)] (fun (t3p : Option Addr) (t3n : Nat) (t3c : Nat) (t4 : Nat) (t5 : Nat) (t6 : Nat) (t8 : Nat) (t9 : Nat) (w : World) => spool_Save.k1 t3p t3n t3c t4 t5 t6 t8 t9 w R) (.seq .leaf (.block (.loop [(3, .slice), (4, .blk), (5, .blk), (6, .blk), (8, .blk), (9, .blk), (34, .slice), (35, .int .i64), (36, .int .i64)] (fun (t3p : Option Addr) (t3n : Nat) (t3c : Nat) (t4 : Nat) (t5 : Nat) (t6 : Nat) (t8 : Nat) (t9 : Nat) (t34p : Option Addr) (t34n : Nat) (t34c : Nat) (t35 : Int) (t36 : Int) (w : World) => spool_Save.l1 t3p t3n t3c t4 t5 t6 t8 t9 t34p t34n t34c t35 t36 w R) (fun (C1 : Option Addr → Nat → Nat → Nat → Nat → Nat → Nat → Nat → Option Addr → Nat → Nat → Int → Int → World → Prop) => .leaf)))) (.seq .leaf (.rf .leaf)))))
def spool_Save.owed (R : Ending → World → Prop) : Prop :=
  (∀ (t3p : Option Addr) (t3n : Nat) (t3c : Nat) (t4 : Nat) (t5 : Nat) (t6 : Nat) (t8 : Nat) (t9 : Nat) (t34p : Option Addr) (t34n : Nat) (t34c : Nat) (t35 : Int) (t36 : Int) (w : World), spool_Save.l1 t3p t3n t3c t4 t5 t6 t8 t9 t34p t34n t34c t35 t36 w R → spool_Save.l1 t3p t3n t3c t4 t5 t6 t8 t9 t34p t34n t34c t35 t36 w R) ∧ (∀ (C1 : Option Addr → Nat → Nat → Nat → Nat → Nat → Nat → Nat → Option Addr → Nat → Nat → Int → Int → World → Prop), True) ∧ (∀ (t3p : Option Addr) (t3n : Nat) (t3c : Nat) (t4 : Nat) (t5 : Nat) (t6 : Nat) (t8 : Nat) (t9 : Nat) (w : World), spool_Save.k1 t3p t3n t3c t4 t5 t6 t8 t9 w R → spool_Save.k1 t3p t3n t3c t4 t5 t6 t8 t9 w R) ∧ True
theorem spool_Save.pays (R : Ending → World → Prop) : spool_Save.owed R := ⟨(fun _ _ _ _ _ _ _ _ _ _ _ _ _ _ h => h), (fun _ => trivial), (fun _ _ _ _ _ _ _ _ _ h => h), trivial⟩
set_option maxRecDepth 100000 in
theorem spool_Save.ok {a0 : Option Addr} {a1 : Int} {a2 : Int} {a3p : Option Addr} {a3n : Nat} {a3c : Nat} {w : World} {R : Ending → World → Prop} (h : spool_Save.main a0 a1 a2 a3p a3n a3c w R) : spool_Save.C a0 a1 a2 a3p a3n a3c w R :=
  evT_ok cxok (c := cx) Try.func14 (code := spool_Save.code) (by kernel_rfl) [.cell 8 3, .cell 9 24] (by kernel_rfl) 77 (by kernel_rfl) (spool_Save.sk R) (args := [(Value.pointer a0), (Value.int .i64 a1), (Value.int .i64 a2), (Value.slice a3p a3n a3c)]) (Nat.le_of_ble_eq_true rfl) (by kernel_rfl) (o := spool_Save.owed R) (by kernel_rfl) (spool_Save.pays R) h

/-! ### (*stopcock/basin.Basin).ready: function 15 -/
def basin_Basin_ready.main (a0 : Option Addr) (w : World) (R : Ending → World → Prop) : Prop :=
  cond (Option.isNone a0) (
    R (.returned (Value.int .i64 1)) w) (
    optP a0 fun d1 =>
    ∃ (b1 : Bool), w.cell? (d1.add 4) = some (Value.bool b1) ∧
    (cond b1 (
        R (.returned (Value.int .i64 10)) w) (
        R (.returned (Value.int .i64 0)) w)))
abbrev basin_Basin_ready.C (a0 : Option Addr) (w : World) (R : Ending → World → Prop) : Prop := Calls Try.prog 15 #[(Value.pointer a0)] w R
noncomputable def basin_Basin_ready.code : Code := (Try.f15.body).getD .skip
noncomputable def basin_Basin_ready.sk (R : Ending → World → Prop) : Sk := .leaf
def basin_Basin_ready.owed (R : Ending → World → Prop) : Prop :=
  True
theorem basin_Basin_ready.pays (R : Ending → World → Prop) : basin_Basin_ready.owed R := trivial
set_option maxRecDepth 100000 in
theorem basin_Basin_ready.ok {a0 : Option Addr} {w : World} {R : Ending → World → Prop} (h : basin_Basin_ready.main a0 w R) : basin_Basin_ready.C a0 w R :=
  ev_ok cxok (c := cx) Try.func15 (code := basin_Basin_ready.code) (by kernel_rfl) [.tmp 2] (by kernel_rfl) 11 (by kernel_rfl) (basin_Basin_ready.sk R) (args := [(Value.pointer a0)]) (Nat.le_of_ble_eq_true rfl) (by kernel_rfl) (o := basin_Basin_ready.owed R) (by kernel_rfl) (basin_Basin_ready.pays R) h

/-! ### slices.ContainsFunc[[]stopcock/api.Write,stopcock/api.Write]: function 16 -/
def api_Write.main (a0p : Option Addr) (a0n : Nat) (a0c : Nat) (a1 : Value) (w : World) (R : Ending → World → Prop) : Prop :=
  callP Try.prog 30 #[(Value.slice a0p a0n a0c), a1] w (fun v1 w1 =>
    dI .i64 v1 fun x1 =>
    R (.returned (Value.bool (decide (x1 ≥ 0)))) w1) (fun ch w2 => R (.panicked ch) w2)
abbrev api_Write.C (a0p : Option Addr) (a0n : Nat) (a0c : Nat) (a1 : Value) (w : World) (R : Ending → World → Prop) : Prop := Calls Try.prog 16 #[(Value.slice a0p a0n a0c), a1] w R
noncomputable def api_Write.code : Code := (Try.f16.body).getD .skip
noncomputable def api_Write.sk (R : Ending → World → Prop) : Sk := .leaf
def api_Write.owed (R : Ending → World → Prop) : Prop :=
  True
theorem api_Write.pays (R : Ending → World → Prop) : api_Write.owed R := trivial
set_option maxRecDepth 100000 in
theorem api_Write.ok {a0p : Option Addr} {a0n : Nat} {a0c : Nat} {a1 : Value} {w : World} {R : Ending → World → Prop} (h : api_Write.main a0p a0n a0c a1 w R) : api_Write.C a0p a0n a0c a1 w R :=
  ev_ok cxok (c := cx) Try.func16 (code := api_Write.code) (by kernel_rfl) [.tmp 4] (by kernel_rfl) 9 (by kernel_rfl) (api_Write.sk R) (args := [(Value.slice a0p a0n a0c), a1]) (Nat.le_of_ble_eq_true rfl) (by kernel_rfl) (o := api_Write.owed R) (by kernel_rfl) (api_Write.pays R) h

/-! ### (*stopcock/basin.Basin).Put$1: function 17 -/
def basin_Basin_Put_1.main (a0_0 : Int) (a0_1p : Option Addr) (a0_1n : Nat) (a0_1c : Nat) (w : World) (R : Ending → World → Prop) : Prop :=
  newP w #[(Value.int .i64 a0_0), (Value.slice a0_1p a0_1n a0_1c)] 31 fun b1 w1 =>
  ∃ (p1 : Option Addr) (n1 : Nat) (c1 : Nat), w1.cell? (⟨b1, 1, none⟩ : Addr) = some (Value.slice p1 n1 c1) ∧
  (R (.returned (Value.bool (((n1 : Nat) : Int) != 64))) w1)
abbrev basin_Basin_Put_1.C (a0_0 : Int) (a0_1p : Option Addr) (a0_1n : Nat) (a0_1c : Nat) (w : World) (R : Ending → World → Prop) : Prop := Calls Try.prog 17 #[(Value.agg #[(Value.int .i64 a0_0), (Value.slice a0_1p a0_1n a0_1c)])] w R
noncomputable def basin_Basin_Put_1.code : Code := (Try.f17.body).getD .skip
noncomputable def basin_Basin_Put_1.sk (R : Ending → World → Prop) : Sk := .leaf
def basin_Basin_Put_1.owed (R : Ending → World → Prop) : Prop :=
  True
theorem basin_Basin_Put_1.pays (R : Ending → World → Prop) : basin_Basin_Put_1.owed R := trivial
set_option maxRecDepth 100000 in
theorem basin_Basin_Put_1.ok {a0_0 : Int} {a0_1p : Option Addr} {a0_1n : Nat} {a0_1c : Nat} {w : World} {R : Ending → World → Prop} (h : basin_Basin_Put_1.main a0_0 a0_1p a0_1n a0_1c w R) : basin_Basin_Put_1.C a0_0 a0_1p a0_1n a0_1c w R :=
  ev_ok cxok (c := cx) Try.func17 (code := basin_Basin_Put_1.code) (by kernel_rfl) [.tmp 2] (by kernel_rfl) 7 (by kernel_rfl) (basin_Basin_Put_1.sk R) (args := [(Value.agg #[(Value.int .i64 a0_0), (Value.slice a0_1p a0_1n a0_1c)])]) (Nat.le_of_ble_eq_true rfl) (by kernel_rfl) (o := basin_Basin_Put_1.owed R) (by kernel_rfl) (basin_Basin_Put_1.pays R) h

/-! ### (*stopcock/basin.Basin).Put$2: function 18 -/
def basin_Basin_Put_2.main (a0_0 : Int) (a0_1p : Option Addr) (a0_1n : Nat) (a0_1c : Nat) (q0 : Nat) (w : World) (R : Ending → World → Prop) : Prop :=
  newP w #[(Value.int .i64 a0_0), (Value.slice a0_1p a0_1n a0_1c)] 31 fun b1 w1 =>
  ∃ (x1 : Int), w1.cell? (⟨b1, 0, none⟩ : Addr) = some (Value.int .i64 x1) ∧
  (cond (decide (x1 < 0)) (
      ∀ k1 : Nat,
      R (.returned (Value.bool true)) (w1.drewN k1)) (
      ∃ (x2 : Int), w1.cell? (⟨b1, 0, none⟩ : Addr) = some (Value.int .i64 x2) ∧
      (∃ (p1 : Option Addr), w1.cell? (⟨q0, 0, none⟩ : Addr) = some (Value.pointer p1) ∧
        (optP p1 fun d1 =>
          ∃ (p2 : Option Addr) (n1 : Nat) (c1 : Nat), w1.cell? (d1.add 1) = some (Value.slice p2 n1 c1) ∧
          (∀ k1 : Nat,
            R (.returned (Value.bool (decide (x2 ≥ ((n1 : Nat) : Int))))) (w1.drewN k1))))))
abbrev basin_Basin_Put_2.C (a0_0 : Int) (a0_1p : Option Addr) (a0_1n : Nat) (a0_1c : Nat) (q0 : Nat) (w : World) (R : Ending → World → Prop) : Prop := Calls Try.prog 18 #[(Value.agg #[(Value.int .i64 a0_0), (Value.slice a0_1p a0_1n a0_1c)]), (Value.pointer (some (⟨q0, 0, none⟩ : Addr)))] w R
noncomputable def basin_Basin_Put_2.code : Code := (Try.f18.body).getD .skip
noncomputable def basin_Basin_Put_2.sk (R : Ending → World → Prop) : Sk := .leaf
def basin_Basin_Put_2.owed (R : Ending → World → Prop) : Prop :=
  True
theorem basin_Basin_Put_2.pays (R : Ending → World → Prop) : basin_Basin_Put_2.owed R := trivial
set_option maxRecDepth 100000 in
theorem basin_Basin_Put_2.ok {a0_0 : Int} {a0_1p : Option Addr} {a0_1n : Nat} {a0_1c : Nat} {q0 : Nat} {w : World} {R : Ending → World → Prop} (h : basin_Basin_Put_2.main a0_0 a0_1p a0_1n a0_1c q0 w R) : basin_Basin_Put_2.C a0_0 a0_1p a0_1n a0_1c q0 w R :=
  ev_ok cxok (c := cx) Try.func18 (code := basin_Basin_Put_2.code) (by kernel_rfl) [.tmp 3] (by kernel_rfl) 17 (by kernel_rfl) (basin_Basin_Put_2.sk R) (args := [(Value.agg #[(Value.int .i64 a0_0), (Value.slice a0_1p a0_1n a0_1c)]), (Value.pointer (some (⟨q0, 0, none⟩ : Addr)))]) (Nat.le_of_ble_eq_true rfl) (by kernel_rfl) (o := basin_Basin_Put_2.owed R) (by kernel_rfl) (basin_Basin_Put_2.pays R) h

end Go.Proofs.Ytnbegeghcjldfaa.G

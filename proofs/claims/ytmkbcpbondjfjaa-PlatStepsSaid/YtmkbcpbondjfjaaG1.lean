/- Statements of functions, and that their calls do what they say. Printed by wip/tool/dec.py. Conditions: none. -/
import Derived.Test.YtmkbcpbondjfjaaG0
namespace Go.Proofs.Ytmkbcpbondjfjaa.G
open Go.Dec
set_option linter.unusedVariables false

/-! ### stopcock/stopcocklaw06.PlatGrows: function 3 -/
def stopcocklaw06_PlatGrows.main (a0_0 : Int) (a0_1 : Int) (w : World) (R : Ending → World → Prop) : Prop :=
  newP w #[(Value.int .i64 a0_0), (Value.int .i64 a0_1)] 23 fun b1 w1 =>
  ∃ (x1 : Int), w1.cell? (⟨b1, 0, none⟩ : Addr) = some (Value.int .i64 x1) ∧
  (cond (decide (x1 ≥ 24)) (
      callP Try.prog 6 #[] w1 (fun v1 w2 =>
        dB v1 fun b2 =>
        R (.returned (Value.bool b2)) w2) (fun ch w3 => R (.panicked ch) w3)) (
      ∃ (x2 : Int), w1.cell? (⟨b1, 1, none⟩ : Addr) = some (Value.int .i64 x2) ∧
      (cond (decide (x2 ≥ 16)) (
          callP Try.prog 6 #[] w1 (fun v2 w4 =>
            dB v2 fun b3 =>
            R (.returned (Value.bool b3)) w4) (fun ch w5 => R (.panicked ch) w5)) (
          ∃ (x3 : Int), w1.cell? (⟨b1, 0, none⟩ : Addr) = some (Value.int .i64 x3) ∧
          (cond (decide (x3 < 6)) (
              callP Try.prog 6 #[] w1 (fun v3 w6 =>
                dB v3 fun b4 =>
                R (.returned (Value.bool b4)) w6) (fun ch w7 => R (.panicked ch) w7)) (
              ∃ (x4 : Int), w1.cell? (⟨b1, 1, none⟩ : Addr) = some (Value.int .i64 x4) ∧
              (cond (decide (x4 < 2)) (
                  callP Try.prog 6 #[] w1 (fun v4 w8 =>
                    dB v4 fun b5 =>
                    R (.returned (Value.bool b5)) w8) (fun ch w9 => R (.panicked ch) w9)) (
                  ∃ (cs1 : Array Value), cs1.size = 2 ∧ CellsAt w1 (⟨b1, 0, none⟩ : Addr) cs1.toList ∧
                  (callP Try.prog 7 #[(Value.agg cs1)] w1 (fun v5 w10 =>
                      dT v5 fun vs1 =>
                      optP (vs1[0]?) fun v6 =>
                      dI .i64 v6 fun x5 =>
                      optP (vs1[1]?) fun v7 =>
                      dI .i64 v7 fun x6 =>
                      ∃ (x7 : Int), w10.cell? (⟨b1, 0, none⟩ : Addr) = some (Value.int .i64 x7) ∧
                      (∃ (x8 : Int), w10.cell? (⟨b1, 1, none⟩ : Addr) = some (Value.int .i64 x8) ∧
                        (callP Try.prog 7 #[(Value.agg #[(Value.int .i64 (IntKind.i64.wrap (x7 + 1))), (Value.int .i64 x8)])] w10 (fun v8 w12 =>
                          dT v8 fun vs2 =>
                          optP (vs2[0]?) fun v9 =>
                          dI .i64 v9 fun x9 =>
                          optP (vs2[1]?) fun v10 =>
                          dI .i64 v10 fun x10 =>
                          ∃ (x11 : Int), w12.cell? (⟨b1, 0, none⟩ : Addr) = some (Value.int .i64 x11) ∧
                          (∃ (x12 : Int), w12.cell? (⟨b1, 1, none⟩ : Addr) = some (Value.int .i64 x12) ∧
                          (callP Try.prog 7 #[(Value.agg #[(Value.int .i64 x11), (Value.int .i64 (IntKind.i64.wrap (x12 + 1)))])] w12 (fun v11 w14 =>
                          dT v11 fun vs3 =>
                          optP (vs3[0]?) fun v12 =>
                          dI .i64 v12 fun x13 =>
                          optP (vs3[1]?) fun v13 =>
                          dI .i64 v13 fun x14 =>
                          callP Try.prog 6 #[] w14 (fun v14 w16 =>
                          dB v14 fun b6 =>
                          cond b6 (
                          cond (x6 == 0) (
                          cond (x10 == 0) (
                          cond (x14 == 0) (
                          ∃ (x15 : Int), w16.cell? (⟨b1, 1, none⟩ : Addr) = some (Value.int .i64 x15) ∧
                          (cond (x9 == (IntKind.i64.wrap (x5 + x15))) (
                          cond (decide (x13 > x5)) (
                          R (.returned (Value.bool (decide (x5 > 0)))) w16) (
                          R (.returned (Value.bool false)) w16)) (
                          R (.returned (Value.bool false)) w16))) (
                          R (.returned (Value.bool false)) w16)) (
                          R (.returned (Value.bool false)) w16)) (
                          R (.returned (Value.bool false)) w16)) (
                          R (.returned (Value.bool false)) w16)) (fun ch w17 => R (.panicked ch) w17)) (fun ch w15 => R (.panicked ch) w15)))) (fun ch w13 => R (.panicked ch) w13)))) (fun ch w11 => R (.panicked ch) w11))))))))))
abbrev stopcocklaw06_PlatGrows.C (a0_0 : Int) (a0_1 : Int) (w : World) (R : Ending → World → Prop) : Prop := Calls Try.prog 3 #[(Value.agg #[(Value.int .i64 a0_0), (Value.int .i64 a0_1)])] w R
noncomputable def stopcocklaw06_PlatGrows.code : Code := (Try.f3.body).getD .skip
noncomputable def stopcocklaw06_PlatGrows.sk (R : Ending → World → Prop) : Sk := .leaf
def stopcocklaw06_PlatGrows.owed (R : Ending → World → Prop) : Prop :=
  True
theorem stopcocklaw06_PlatGrows.pays (R : Ending → World → Prop) : stopcocklaw06_PlatGrows.owed R := trivial
set_option maxRecDepth 100000 in
theorem stopcocklaw06_PlatGrows.ok {a0_0 : Int} {a0_1 : Int} {w : World} {R : Ending → World → Prop} (h : stopcocklaw06_PlatGrows.main a0_0 a0_1 w R) : stopcocklaw06_PlatGrows.C a0_0 a0_1 w R :=
  ev_ok cxok (c := cx) Try.func3 (code := stopcocklaw06_PlatGrows.code) (by kernel_rfl) [.tmp 2] (by kernel_rfl) 83 (by kernel_rfl) (stopcocklaw06_PlatGrows.sk R) (args := [(Value.agg #[(Value.int .i64 a0_0), (Value.int .i64 a0_1)])]) (Nat.le_of_ble_eq_true rfl) (by kernel_rfl) (o := stopcocklaw06_PlatGrows.owed R) (by kernel_rfl) (stopcocklaw06_PlatGrows.pays R) h

/-! ### stopcock/stopcocklaw06.awake: function 6 -/
def stopcocklaw06_awake.main (w : World) (R : Ending → World → Prop) : Prop :=
  callP Try.prog 9 #[(Value.agg #[(Value.int .i64 8), (Value.int .i64 4)])] w (fun v1 w1 =>
    dT v1 fun vs1 =>
    optP (vs1[0]?) fun v2 =>
    dI .i64 v2 fun x1 =>
    optP (vs1[1]?) fun v3 =>
    dI .i64 v3 fun x2 =>
    callP Try.prog 8 #[(Value.agg #[(Value.int .i64 8), (Value.int .i64 4)]), (Value.complex .f64 4611686018427387904 4613937818241073152)] w1 (fun v4 w3 =>
      dT v4 fun vs2 =>
      optP (vs2[0]?) fun v5 =>
      dI .i64 v5 fun x3 =>
      optP (vs2[1]?) fun v6 =>
      dI .i64 v6 fun x4 =>
      callP Try.prog 7 #[(Value.agg #[(Value.int .i64 8), (Value.int .i64 4)])] w3 (fun v7 w5 =>
        dT v7 fun vs3 =>
        optP (vs3[0]?) fun v8 =>
        dI .i64 v8 fun x5 =>
        optP (vs3[1]?) fun v9 =>
        dI .i64 v9 fun x6 =>
        cond (x2 == 0) (
          cond (x4 == 0) (
            cond (x6 == 0) (
              cond (x1 == 72) (
                cond (x3 == 51) (
                  R (.returned (Value.bool (x5 == 16))) w5) (
                  R (.returned (Value.bool false)) w5)) (
                R (.returned (Value.bool false)) w5)) (
              R (.returned (Value.bool false)) w5)) (
            R (.returned (Value.bool false)) w5)) (
          R (.returned (Value.bool false)) w5)) (fun ch w6 => R (.panicked ch) w6)) (fun ch w4 => R (.panicked ch) w4)) (fun ch w2 => R (.panicked ch) w2)
abbrev stopcocklaw06_awake.C (w : World) (R : Ending → World → Prop) : Prop := Calls Try.prog 6 #[] w R
noncomputable def stopcocklaw06_awake.code : Code := (Try.f6.body).getD .skip
noncomputable def stopcocklaw06_awake.sk (R : Ending → World → Prop) : Sk := .leaf
def stopcocklaw06_awake.owed (R : Ending → World → Prop) : Prop :=
  True
theorem stopcocklaw06_awake.pays (R : Ending → World → Prop) : stopcocklaw06_awake.owed R := trivial
set_option maxRecDepth 100000 in
theorem stopcocklaw06_awake.ok {w : World} {R : Ending → World → Prop} (h : stopcocklaw06_awake.main  w R) : stopcocklaw06_awake.C  w R :=
  ev_ok cxok (c := cx) Try.func6 (code := stopcocklaw06_awake.code) (by kernel_rfl) [.tmp 0] (by kernel_rfl) 44 (by kernel_rfl) (stopcocklaw06_awake.sk R) (args := []) (Nat.le_of_ble_eq_true rfl) (by kernel_rfl) (o := stopcocklaw06_awake.owed R) (by kernel_rfl) (stopcocklaw06_awake.pays R) h

/-! ### stopcock/plat.Capacity: function 7 -/
def plat_Capacity.main (a0_0 : Int) (a0_1 : Int) (w : World) (R : Ending → World → Prop) : Prop :=
  newP w #[(Value.int .i64 a0_0), (Value.int .i64 a0_1)] 23 fun b1 w1 =>
  ∃ (cs1 : Array Value), cs1.size = 2 ∧ CellsAt w1 (⟨b1, 0, none⟩ : Addr) cs1.toList ∧
  (callP Try.prog 12 #[(Value.agg cs1)] w1 (fun v1 w2 =>
      dI .i64 v1 fun x1 =>
      cond (x1 != 0) (
        R (.returned (Value.tuple #[(Value.int .i64 0), (Value.int .i64 x1)])) w2) (
        ∃ (x2 : Int), w2.cell? (⟨b1, 0, none⟩ : Addr) = some (Value.int .i64 x2) ∧
        (∃ (x3 : Int), w2.cell? (⟨b1, 1, none⟩ : Addr) = some (Value.int .i64 x3) ∧
          (R (.returned (Value.tuple #[(Value.int .i64 (IntKind.i64.wrap ((IntKind.i64.wrap ((IntKind.i64.wrap (x2 - 2)) - 2)) * x3))), (Value.int .i64 0)])) w2)))) (fun ch w3 => R (.panicked ch) w3))
abbrev plat_Capacity.C (a0_0 : Int) (a0_1 : Int) (w : World) (R : Ending → World → Prop) : Prop := Calls Try.prog 7 #[(Value.agg #[(Value.int .i64 a0_0), (Value.int .i64 a0_1)])] w R
noncomputable def plat_Capacity.code : Code := (Try.f7.body).getD .skip
noncomputable def plat_Capacity.sk (R : Ending → World → Prop) : Sk := .leaf
def plat_Capacity.owed (R : Ending → World → Prop) : Prop :=
  True
theorem plat_Capacity.pays (R : Ending → World → Prop) : plat_Capacity.owed R := trivial
set_option maxRecDepth 100000 in
theorem plat_Capacity.ok {a0_0 : Int} {a0_1 : Int} {w : World} {R : Ending → World → Prop} (h : plat_Capacity.main a0_0 a0_1 w R) : plat_Capacity.C a0_0 a0_1 w R :=
  ev_ok cxok (c := cx) Try.func7 (code := plat_Capacity.code) (by kernel_rfl) [.tmp 2, .tmp 3] (by kernel_rfl) 17 (by kernel_rfl) (plat_Capacity.sk R) (args := [(Value.agg #[(Value.int .i64 a0_0), (Value.int .i64 a0_1)])]) (Nat.le_of_ble_eq_true rfl) (by kernel_rfl) (o := plat_Capacity.owed R) (by kernel_rfl) (plat_Capacity.pays R) h

/-! ### stopcock/plat.At: function 8 -/
def plat_At.main (a0_0 : Int) (a0_1 : Int) (a1r : Nat) (a1m : Nat) (w : World) (R : Ending → World → Prop) : Prop :=
  newP w #[(Value.int .i64 a0_0), (Value.int .i64 a0_1)] 23 fun b1 w1 =>
  ∃ (cs1 : Array Value), cs1.size = 2 ∧ CellsAt w1 (⟨b1, 0, none⟩ : Addr) cs1.toList ∧
  (callP Try.prog 12 #[(Value.agg cs1)] w1 (fun v1 w2 =>
      dI .i64 v1 fun x1 =>
      cond (x1 != 0) (
        R (.returned (Value.tuple #[(Value.int .i64 0), (Value.int .i64 x1)])) w2) (
        ∃ (x2 : Int), w2.cell? (⟨b1, 1, none⟩ : Addr) = some (Value.int .i64 x2) ∧
        (callP Try.prog 14 #[(Value.complex .f64 a1r a1m), (Value.int .i64 x2)] w2 (fun v2 w4 =>
            dT v2 fun vs1 =>
            optP (vs1[0]?) fun v3 =>
            dI .i64 v3 fun x3 =>
            optP (vs1[1]?) fun v4 =>
            dI .i64 v4 fun x4 =>
            cond (x4 != 0) (
              R (.returned (Value.tuple #[(Value.int .i64 0), (Value.int .i64 x4)])) w4) (
              ∃ (x5 : Int), w4.cell? (⟨b1, 0, none⟩ : Addr) = some (Value.int .i64 x5) ∧
              (∃ (x6 : Int), w4.cell? (⟨b1, 1, none⟩ : Addr) = some (Value.int .i64 x6) ∧
                (cond (decide (x3 ≥ (IntKind.i64.wrap (x5 * x6)))) (
                    R (.returned (Value.tuple #[(Value.int .i64 0), (Value.int .i64 5)])) w4) (
                    R (.returned (Value.tuple #[(Value.int .i64 (IntKind.i64.wrap (40 + x3))), (Value.int .i64 0)])) w4))))) (fun ch w5 => R (.panicked ch) w5)))) (fun ch w3 => R (.panicked ch) w3))
abbrev plat_At.C (a0_0 : Int) (a0_1 : Int) (a1r : Nat) (a1m : Nat) (w : World) (R : Ending → World → Prop) : Prop := Calls Try.prog 8 #[(Value.agg #[(Value.int .i64 a0_0), (Value.int .i64 a0_1)]), (Value.complex .f64 a1r a1m)] w R
noncomputable def plat_At.code : Code := (Try.f8.body).getD .skip
noncomputable def plat_At.sk (R : Ending → World → Prop) : Sk := .leaf
def plat_At.owed (R : Ending → World → Prop) : Prop :=
  True
theorem plat_At.pays (R : Ending → World → Prop) : plat_At.owed R := trivial
set_option maxRecDepth 100000 in
theorem plat_At.ok {a0_0 : Int} {a0_1 : Int} {a1r : Nat} {a1m : Nat} {w : World} {R : Ending → World → Prop} (h : plat_At.main a0_0 a0_1 a1r a1m w R) : plat_At.C a0_0 a0_1 a1r a1m w R :=
  ev_ok cxok (c := cx) Try.func8 (code := plat_At.code) (by kernel_rfl) [.tmp 4, .tmp 5] (by kernel_rfl) 35 (by kernel_rfl) (plat_At.sk R) (args := [(Value.agg #[(Value.int .i64 a0_0), (Value.int .i64 a0_1)]), (Value.complex .f64 a1r a1m)]) (Nat.le_of_ble_eq_true rfl) (by kernel_rfl) (o := plat_At.owed R) (by kernel_rfl) (plat_At.pays R) h

/-! ### stopcock/plat.Sectors: function 9 -/
def plat_Sectors.main (a0_0 : Int) (a0_1 : Int) (w : World) (R : Ending → World → Prop) : Prop :=
  newP w #[(Value.int .i64 a0_0), (Value.int .i64 a0_1)] 23 fun b1 w1 =>
  ∃ (cs1 : Array Value), cs1.size = 2 ∧ CellsAt w1 (⟨b1, 0, none⟩ : Addr) cs1.toList ∧
  (callP Try.prog 12 #[(Value.agg cs1)] w1 (fun v1 w2 =>
      dI .i64 v1 fun x1 =>
      cond (x1 != 0) (
        R (.returned (Value.tuple #[(Value.int .i64 0), (Value.int .i64 x1)])) w2) (
        ∃ (x2 : Int), w2.cell? (⟨b1, 0, none⟩ : Addr) = some (Value.int .i64 x2) ∧
        (∃ (x3 : Int), w2.cell? (⟨b1, 1, none⟩ : Addr) = some (Value.int .i64 x3) ∧
          (R (.returned (Value.tuple #[(Value.int .i64 (IntKind.i64.wrap (40 + (IntKind.i64.wrap (x2 * x3))))), (Value.int .i64 0)])) w2)))) (fun ch w3 => R (.panicked ch) w3))
abbrev plat_Sectors.C (a0_0 : Int) (a0_1 : Int) (w : World) (R : Ending → World → Prop) : Prop := Calls Try.prog 9 #[(Value.agg #[(Value.int .i64 a0_0), (Value.int .i64 a0_1)])] w R
noncomputable def plat_Sectors.code : Code := (Try.f9.body).getD .skip
noncomputable def plat_Sectors.sk (R : Ending → World → Prop) : Sk := .leaf
def plat_Sectors.owed (R : Ending → World → Prop) : Prop :=
  True
theorem plat_Sectors.pays (R : Ending → World → Prop) : plat_Sectors.owed R := trivial
set_option maxRecDepth 100000 in
theorem plat_Sectors.ok {a0_0 : Int} {a0_1 : Int} {w : World} {R : Ending → World → Prop} (h : plat_Sectors.main a0_0 a0_1 w R) : plat_Sectors.C a0_0 a0_1 w R :=
  ev_ok cxok (c := cx) Try.func9 (code := plat_Sectors.code) (by kernel_rfl) [.tmp 2, .tmp 3] (by kernel_rfl) 16 (by kernel_rfl) (plat_Sectors.sk R) (args := [(Value.agg #[(Value.int .i64 a0_0), (Value.int .i64 a0_1)])]) (Nat.le_of_ble_eq_true rfl) (by kernel_rfl) (o := plat_Sectors.owed R) (by kernel_rfl) (plat_Sectors.pays R) h

/-! ### stopcock/plat.Check: function 12 -/
def plat_Check.main (a0_0 : Int) (a0_1 : Int) (w : World) (R : Ending → World → Prop) : Prop :=
  newP w #[(Value.int .i64 a0_0), (Value.int .i64 a0_1)] 23 fun b1 w1 =>
  ∃ (x1 : Int), w1.cell? (⟨b1, 0, none⟩ : Addr) = some (Value.int .i64 x1) ∧
  (cond (decide (x1 < 6)) (
      R (.returned (Value.int .i64 1)) w1) (
      ∃ (x2 : Int), w1.cell? (⟨b1, 0, none⟩ : Addr) = some (Value.int .i64 x2) ∧
      (cond (decide (x2 > 24)) (
          R (.returned (Value.int .i64 1)) w1) (
          ∃ (x3 : Int), w1.cell? (⟨b1, 1, none⟩ : Addr) = some (Value.int .i64 x3) ∧
          (cond (decide (x3 < 2)) (
              R (.returned (Value.int .i64 1)) w1) (
              ∃ (x4 : Int), w1.cell? (⟨b1, 1, none⟩ : Addr) = some (Value.int .i64 x4) ∧
              (cond (decide (x4 > 16)) (
                  R (.returned (Value.int .i64 1)) w1) (
                  R (.returned (Value.int .i64 0)) w1))))))))
abbrev plat_Check.C (a0_0 : Int) (a0_1 : Int) (w : World) (R : Ending → World → Prop) : Prop := Calls Try.prog 12 #[(Value.agg #[(Value.int .i64 a0_0), (Value.int .i64 a0_1)])] w R
noncomputable def plat_Check.code : Code := (Try.f12.body).getD .skip
noncomputable def plat_Check.sk (R : Ending → World → Prop) : Sk := .leaf
def plat_Check.owed (R : Ending → World → Prop) : Prop :=
  True
theorem plat_Check.pays (R : Ending → World → Prop) : plat_Check.owed R := trivial
set_option maxRecDepth 100000 in
theorem plat_Check.ok {a0_0 : Int} {a0_1 : Int} {w : World} {R : Ending → World → Prop} (h : plat_Check.main a0_0 a0_1 w R) : plat_Check.C a0_0 a0_1 w R :=
  ev_ok cxok (c := cx) Try.func12 (code := plat_Check.code) (by kernel_rfl) [.tmp 2] (by kernel_rfl) 21 (by kernel_rfl) (plat_Check.sk R) (args := [(Value.agg #[(Value.int .i64 a0_0), (Value.int .i64 a0_1)])]) (Nat.le_of_ble_eq_true rfl) (by kernel_rfl) (o := plat_Check.owed R) (by kernel_rfl) (plat_Check.pays R) h

/-! ### stopcock/axis.Flat: function 14 -/
def axis_Flat.main (a0r : Nat) (a0m : Nat) (a1 : Int) (w : World) (R : Ending → World → Prop) : Prop :=
  callP Try.prog 15 #[(Value.complex .f64 a0r a0m)] w (fun v1 w1 =>
    dT v1 fun vs1 =>
    optP (vs1[0]?) fun v2 =>
    dI .i64 v2 fun x1 =>
    optP (vs1[1]?) fun v3 =>
    dI .i64 v3 fun x2 =>
    optP (vs1[2]?) fun v4 =>
    dI .i64 v4 fun x3 =>
    callP Try.prog 16 #[(Value.int .i64 a1)] w1 (fun v5 w3 =>
      dB v5 fun b1 =>
      cond (!b1) (
        R (.returned (Value.tuple #[(Value.int .i64 0), (Value.int .i64 1)])) w3) (
        cond (x3 != 0) (
          R (.returned (Value.tuple #[(Value.int .i64 0), (Value.int .i64 x3)])) w3) (
          cond (decide (x2 ≥ a1)) (
            R (.returned (Value.tuple #[(Value.int .i64 0), (Value.int .i64 5)])) w3) (
            R (.returned (Value.tuple #[(Value.int .i64 (IntKind.i64.wrap ((IntKind.i64.wrap (x1 * a1)) + x2))), (Value.int .i64 0)])) w3)))) (fun ch w4 => R (.panicked ch) w4)) (fun ch w2 => R (.panicked ch) w2)
abbrev axis_Flat.C (a0r : Nat) (a0m : Nat) (a1 : Int) (w : World) (R : Ending → World → Prop) : Prop := Calls Try.prog 14 #[(Value.complex .f64 a0r a0m), (Value.int .i64 a1)] w R
noncomputable def axis_Flat.code : Code := (Try.f14.body).getD .skip
noncomputable def axis_Flat.sk (R : Ending → World → Prop) : Sk := .leaf
def axis_Flat.owed (R : Ending → World → Prop) : Prop :=
  True
theorem axis_Flat.pays (R : Ending → World → Prop) : axis_Flat.owed R := trivial
set_option maxRecDepth 100000 in
theorem axis_Flat.ok {a0r : Nat} {a0m : Nat} {a1 : Int} {w : World} {R : Ending → World → Prop} (h : axis_Flat.main a0r a0m a1 w R) : axis_Flat.C a0r a0m a1 w R :=
  ev_ok cxok (c := cx) Try.func14 (code := axis_Flat.code) (by kernel_rfl) [.tmp 4, .tmp 5] (by kernel_rfl) 32 (by kernel_rfl) (axis_Flat.sk R) (args := [(Value.complex .f64 a0r a0m), (Value.int .i64 a1)]) (Nat.le_of_ble_eq_true rfl) (by kernel_rfl) (o := axis_Flat.owed R) (by kernel_rfl) (axis_Flat.pays R) h

/-! ### stopcock/axis.Parts: function 15 -/
def axis_Parts.main (a0r : Nat) (a0m : Nat) (w : World) (R : Ending → World → Prop) : Prop :=
  callP Try.prog 17 #[(Value.complex .f64 a0r a0m)] w (fun v1 w1 =>
    dB v1 fun b1 =>
    cond (!b1) (
      R (.returned (Value.tuple #[(Value.int .i64 0), (Value.int .i64 0), (Value.int .i64 2)])) w1) (
      optP ((FloatKind.f64.decode a0r).toInt .zero) fun x1 =>
      chk (decide (IntKind.i64.min ≤ x1)) (
        chk (decide (x1 ≤ IntKind.i64.max)) (
          optP ((FloatKind.f64.decode a0m).toInt .zero) fun x2 =>
          chk (decide (IntKind.i64.min ≤ x2)) (
            chk (decide (x2 ≤ IntKind.i64.max)) (
              R (.returned (Value.tuple #[(Value.int .i64 x1), (Value.int .i64 x2), (Value.int .i64 0)])) w1)))))) (fun ch w2 => R (.panicked ch) w2)
abbrev axis_Parts.C (a0r : Nat) (a0m : Nat) (w : World) (R : Ending → World → Prop) : Prop := Calls Try.prog 15 #[(Value.complex .f64 a0r a0m)] w R
noncomputable def axis_Parts.code : Code := (Try.f15.body).getD .skip
noncomputable def axis_Parts.sk (R : Ending → World → Prop) : Sk := .leaf
def axis_Parts.owed (R : Ending → World → Prop) : Prop :=
  True
theorem axis_Parts.pays (R : Ending → World → Prop) : axis_Parts.owed R := trivial
set_option maxRecDepth 100000 in
theorem axis_Parts.ok {a0r : Nat} {a0m : Nat} {w : World} {R : Ending → World → Prop} (h : axis_Parts.main a0r a0m w R) : axis_Parts.C a0r a0m w R :=
  ev_ok cxok (c := cx) Try.func15 (code := axis_Parts.code) (by kernel_rfl) [.tmp 2, .tmp 3, .tmp 4] (by kernel_rfl) 14 (by kernel_rfl) (axis_Parts.sk R) (args := [(Value.complex .f64 a0r a0m)]) (Nat.le_of_ble_eq_true rfl) (by kernel_rfl) (o := axis_Parts.owed R) (by kernel_rfl) (axis_Parts.pays R) h

/-! ### stopcock/axis.width: function 16 -/
def axis_width.main (a0 : Int) (w : World) (R : Ending → World → Prop) : Prop :=
  cond (decide (a0 ≥ 1)) (
    R (.returned (Value.bool (decide (a0 ≤ 16)))) w) (
    R (.returned (Value.bool false)) w)
abbrev axis_width.C (a0 : Int) (w : World) (R : Ending → World → Prop) : Prop := Calls Try.prog 16 #[(Value.int .i64 a0)] w R
noncomputable def axis_width.code : Code := (Try.f16.body).getD .skip
noncomputable def axis_width.sk (R : Ending → World → Prop) : Sk := .leaf
def axis_width.owed (R : Ending → World → Prop) : Prop :=
  True
theorem axis_width.pays (R : Ending → World → Prop) : axis_width.owed R := trivial
set_option maxRecDepth 100000 in
theorem axis_width.ok {a0 : Int} {w : World} {R : Ending → World → Prop} (h : axis_width.main a0 w R) : axis_width.C a0 w R :=
  ev_ok cxok (c := cx) Try.func16 (code := axis_width.code) (by kernel_rfl) [.tmp 2] (by kernel_rfl) 9 (by kernel_rfl) (axis_width.sk R) (args := [(Value.int .i64 a0)]) (Nat.le_of_ble_eq_true rfl) (by kernel_rfl) (o := axis_width.owed R) (by kernel_rfl) (axis_width.pays R) h

/-! ### stopcock/axis.Whole: function 17 -/
def axis_Whole.main (a0r : Nat) (a0m : Nat) (w : World) (R : Ending → World → Prop) : Prop :=
  callP Try.prog 18 #[(Value.float .f64 a0r), (Value.int .i64 24)] w (fun v1 w1 =>
    dB v1 fun b1 =>
    cond b1 (
      callP Try.prog 18 #[(Value.float .f64 a0m), (Value.int .i64 16)] w1 (fun v2 w3 =>
        dB v2 fun b2 =>
        R (.returned (Value.bool b2)) w3) (fun ch w4 => R (.panicked ch) w4)) (
      R (.returned (Value.bool false)) w1)) (fun ch w2 => R (.panicked ch) w2)
abbrev axis_Whole.C (a0r : Nat) (a0m : Nat) (w : World) (R : Ending → World → Prop) : Prop := Calls Try.prog 17 #[(Value.complex .f64 a0r a0m)] w R
noncomputable def axis_Whole.code : Code := (Try.f17.body).getD .skip
noncomputable def axis_Whole.sk (R : Ending → World → Prop) : Sk := .leaf
def axis_Whole.owed (R : Ending → World → Prop) : Prop :=
  True
theorem axis_Whole.pays (R : Ending → World → Prop) : axis_Whole.owed R := trivial
set_option maxRecDepth 100000 in
theorem axis_Whole.ok {a0r : Nat} {a0m : Nat} {w : World} {R : Ending → World → Prop} (h : axis_Whole.main a0r a0m w R) : axis_Whole.C a0r a0m w R :=
  ev_ok cxok (c := cx) Try.func17 (code := axis_Whole.code) (by kernel_rfl) [.tmp 2] (by kernel_rfl) 11 (by kernel_rfl) (axis_Whole.sk R) (args := [(Value.complex .f64 a0r a0m)]) (Nat.le_of_ble_eq_true rfl) (by kernel_rfl) (o := axis_Whole.owed R) (by kernel_rfl) (axis_Whole.pays R) h

/-! ### stopcock/axis.within: function 18 -/
def axis_within.main (a0 : Nat) (a1 : Int) (w : World) (R : Ending → World → Prop) : Prop :=
  cond (fCmp .geq a0 0) (
    cond (fCmp .lss a0 (FloatKind.f64.nearest a1)) (
      optP ((FloatKind.f64.decode a0).toInt .zero) fun x1 =>
      chk (decide (IntKind.i64.min ≤ x1)) (
        chk (decide (x1 ≤ IntKind.i64.max)) (
          R (.returned (Value.bool (fCmp .eql (FloatKind.f64.nearest x1) a0))) w))) (
      R (.returned (Value.bool false)) w)) (
    R (.returned (Value.bool false)) w)
abbrev axis_within.C (a0 : Nat) (a1 : Int) (w : World) (R : Ending → World → Prop) : Prop := Calls Try.prog 18 #[(Value.float .f64 a0), (Value.int .i64 a1)] w R
noncomputable def axis_within.code : Code := (Try.f18.body).getD .skip
noncomputable def axis_within.sk (R : Ending → World → Prop) : Sk := .leaf
def axis_within.owed (R : Ending → World → Prop) : Prop :=
  True
theorem axis_within.pays (R : Ending → World → Prop) : axis_within.owed R := trivial
set_option maxRecDepth 100000 in
theorem axis_within.ok {a0 : Nat} {a1 : Int} {w : World} {R : Ending → World → Prop} (h : axis_within.main a0 a1 w R) : axis_within.C a0 a1 w R :=
  ev_ok cxok (c := cx) Try.func18 (code := axis_within.code) (by kernel_rfl) [.tmp 4] (by kernel_rfl) 20 (by kernel_rfl) (axis_within.sk R) (args := [(Value.float .f64 a0), (Value.int .i64 a1)]) (Nat.le_of_ble_eq_true rfl) (by kernel_rfl) (o := axis_within.owed R) (by kernel_rfl) (axis_within.pays R) h

/-! ### stopcock/stopcocklaw06.PlatSteps: function 4 -/
def stopcocklaw06_PlatSteps.main (a0 : Int) (a1 : Int) (a2 : Int) (a3 : Int) (w : World) (R : Ending → World → Prop) : Prop :=
  newP w #[(Value.int .i64 0), (Value.int .i64 0)] 23 fun b1 w1 =>
  Wr w1 (⟨b1, 0, none⟩ : Addr) [(Value.int .i64 (IntKind.i64.wrap (6 + (IntKind.i64.wrap (Int.tmod a0 19))))), (Value.int .i64 (IntKind.i64.wrap (2 + (IntKind.i64.wrap (Int.tmod a1 15)))))] ∧ ∀ w2, w2 = w1.setCells (⟨b1, 0, none⟩ : Addr).block (⟨b1, 0, none⟩ : Addr).off [(Value.int .i64 (IntKind.i64.wrap (6 + (IntKind.i64.wrap (Int.tmod a0 19))))), (Value.int .i64 (IntKind.i64.wrap (2 + (IntKind.i64.wrap (Int.tmod a1 15)))))] →
  (∃ (x1 : Int), w2.cell? (⟨b1, 0, none⟩ : Addr) = some (Value.int .i64 x1) ∧
    (chk (decide (x1 ≠ 0)) (
        ∃ (x2 : Int), w2.cell? (⟨b1, 1, none⟩ : Addr) = some (Value.int .i64 x2) ∧
        (chk (decide (x2 ≠ 0)) (
            ∀ k1 : Nat,
            ∃ (cs1 : Array Value), cs1.size = 2 ∧ CellsAt (w2.drewN k1) (⟨b1, 0, none⟩ : Addr) cs1.toList ∧
            (callP Try.prog 8 #[(Value.agg cs1), (Value.complex .f64 (FloatKind.f64.nearest (Int.tmod (IntKind.i64.wrap a2) x1)) (FloatKind.f64.nearest (Int.tmod (IntKind.i64.wrap a3) x2)))] (w2.drewN k1) (fun v1 w3 =>
                dT v1 fun vs1 =>
                optP (vs1[0]?) fun v2 =>
                dI .i64 v2 fun x3 =>
                optP (vs1[1]?) fun v3 =>
                dI .i64 v3 fun x4 =>
                ∃ (cs2 : Array Value), cs2.size = 2 ∧ CellsAt w3 (⟨b1, 0, none⟩ : Addr) cs2.toList ∧
                (callP Try.prog 8 #[(Value.agg cs2), (Value.complex .f64 (FloatKind.f64.nearest (Int.tmod (IntKind.i64.wrap a2) x1)) 0)] w3 (fun v4 w5 =>
                    dT v4 fun vs2 =>
                    optP (vs2[0]?) fun v5 =>
                    dI .i64 v5 fun x5 =>
                    optP (vs2[1]?) fun v6 =>
                    dI .i64 v6 fun x6 =>
                    callP Try.prog 6 #[] w5 (fun v7 w7 =>
                      dB v7 fun b2 =>
                      cond (!b2) (
                        R (.returned (Value.bool false)) w7) (
                        cond (x4 != 0) (
                          R (.returned (Value.bool false)) w7) (
                          cond (x6 != 0) (
                          R (.returned (Value.bool false)) w7) (
                          cond (x3 != (IntKind.i64.wrap (x5 + (Int.tmod (IntKind.i64.wrap a3) x2)))) (
                          R (.returned (Value.bool false)) w7) (
                          ∃ (x7 : Int), w7.cell? (⟨b1, 0, none⟩ : Addr) = some (Value.int .i64 x7) ∧
                          (cond ((IntKind.i64.wrap ((Int.tmod (IntKind.i64.wrap a2) x1) + 1)) == x7) (
                          ∃ (cs3 : Array Value), cs3.size = 2 ∧ CellsAt w7 (⟨b1, 0, none⟩ : Addr) cs3.toList ∧
                          (callP Try.prog 9 #[(Value.agg cs3)] w7 (fun v8 w9 =>
                          dT v8 fun vs3 =>
                          optP (vs3[0]?) fun v9 =>
                          dI .i64 v9 fun x8 =>
                          optP (vs3[1]?) fun v10 =>
                          dI .i64 v10 fun x9 =>
                          cond (x9 == 0) (
                          ∃ (x10 : Int), w9.cell? (⟨b1, 1, none⟩ : Addr) = some (Value.int .i64 x10) ∧
                          (R (.returned (Value.bool ((IntKind.i64.wrap (x5 + x10)) == x8))) w9)) (
                          R (.returned (Value.bool false)) w9)) (fun ch w10 => R (.panicked ch) w10))) (
                          ∃ (cs4 : Array Value), cs4.size = 2 ∧ CellsAt w7 (⟨b1, 0, none⟩ : Addr) cs4.toList ∧
                          (callP Try.prog 8 #[(Value.agg cs4), (Value.complex .f64 (FloatKind.f64.nearest (IntKind.i64.wrap ((Int.tmod (IntKind.i64.wrap a2) x1) + 1))) 0)] w7 (fun v11 w11 =>
                          dT v11 fun vs4 =>
                          optP (vs4[0]?) fun v12 =>
                          dI .i64 v12 fun x11 =>
                          optP (vs4[1]?) fun v13 =>
                          dI .i64 v13 fun x12 =>
                          cond (x12 == 0) (
                          ∃ (x13 : Int), w11.cell? (⟨b1, 1, none⟩ : Addr) = some (Value.int .i64 x13) ∧
                          (R (.returned (Value.bool (x11 == (IntKind.i64.wrap (x5 + x13))))) w11)) (
                          R (.returned (Value.bool false)) w11)) (fun ch w12 => R (.panicked ch) w12))))))))) (fun ch w8 => R (.panicked ch) w8)) (fun ch w6 => R (.panicked ch) w6))) (fun ch w4 => R (.panicked ch) w4)))))))
abbrev stopcocklaw06_PlatSteps.C (a0 : Int) (a1 : Int) (a2 : Int) (a3 : Int) (w : World) (R : Ending → World → Prop) : Prop := Calls Try.prog 4 #[(Value.int .u8 a0), (Value.int .u8 a1), (Value.int .u8 a2), (Value.int .u8 a3)] w R
noncomputable def stopcocklaw06_PlatSteps.code : Code := (Try.f4.body).getD .skip
noncomputable def stopcocklaw06_PlatSteps.sk (R : Ending → World → Prop) : Sk := .leaf
def stopcocklaw06_PlatSteps.owed (R : Ending → World → Prop) : Prop :=
  True
theorem stopcocklaw06_PlatSteps.pays (R : Ending → World → Prop) : stopcocklaw06_PlatSteps.owed R := trivial
set_option maxRecDepth 100000 in
theorem stopcocklaw06_PlatSteps.ok {a0 : Int} {a1 : Int} {a2 : Int} {a3 : Int} {w : World} {R : Ending → World → Prop} (h : stopcocklaw06_PlatSteps.main a0 a1 a2 a3 w R) : stopcocklaw06_PlatSteps.C a0 a1 a2 a3 w R :=
  ev_ok cxok (c := cx) Try.func4 (code := stopcocklaw06_PlatSteps.code) (by kernel_rfl) [.tmp 8] (by kernel_rfl) 113 (by kernel_rfl) (stopcocklaw06_PlatSteps.sk R) (args := [(Value.int .u8 a0), (Value.int .u8 a1), (Value.int .u8 a2), (Value.int .u8 a3)]) (Nat.le_of_ble_eq_true rfl) (by kernel_rfl) (o := stopcocklaw06_PlatSteps.owed R) (by kernel_rfl) (stopcocklaw06_PlatSteps.pays R) h

end Go.Proofs.Ytmkbcpbondjfjaa.G

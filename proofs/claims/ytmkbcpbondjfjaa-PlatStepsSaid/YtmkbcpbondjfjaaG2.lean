/- Statements of functions, and that their calls do what they say. Printed by wip/tool/dec.py. Conditions: none. -/
import Derived.Test.YtmkbcpbondjfjaaG0
namespace Go.Proofs.Ytmkbcpbondjfjaa.G
open Go.Dec
set_option linter.unusedVariables false

/-! ### stopcock/stopcocklaw06.PlatSizes: function 5 -/
def stopcocklaw06_PlatSizes.k1 (t1 : Int) (t2 : Int) (t3 : Nat) (t11 : Int) (t12 : Int) (t113 : Bool) (w : World) (R : Ending → World → Prop) : Prop :=
  cond t113 (
    cond (t12 == 1) (
      R (.returned (Value.bool (t11 == 0))) w) (
      R (.returned (Value.bool false)) w)) (
    cond (t12 == 0) (
      ∃ (x12 : Int), w.cell? (⟨t3, 0, none⟩ : Addr) = some (Value.int .i64 x12) ∧
      (∃ (x13 : Int), w.cell? (⟨t3, 1, none⟩ : Addr) = some (Value.int .i64 x13) ∧
        (R (.returned (Value.bool (t11 == (IntKind.i64.wrap ((IntKind.i64.wrap ((IntKind.i64.wrap (2 * t2)) * (IntKind.i64.wrap (t1 + 1)))) * (IntKind.i64.wrap ((IntKind.i64.wrap (x12 * x13)) + 2))))))) w))) (
      R (.returned (Value.bool false)) w))
def stopcocklaw06_PlatSizes.main (a0_0 : Int) (a0_1 : Int) (a1 : Int) (a2 : Int) (w : World) (R : Ending → World → Prop) : Prop :=
  newP w #[(Value.int .i64 a0_0), (Value.int .i64 a0_1)] 23 fun b1 w1 =>
  ∃ (cs1 : Array Value), cs1.size = 2 ∧ CellsAt w1 (⟨b1, 0, none⟩ : Addr) cs1.toList ∧
  (callP Try.prog 9 #[(Value.agg cs1)] w1 (fun v1 w2 =>
      dT v1 fun vs1 =>
      optP (vs1[0]?) fun v2 =>
      dI .i64 v2 fun x1 =>
      optP (vs1[1]?) fun v3 =>
      dI .i64 v3 fun x2 =>
      ∃ (cs2 : Array Value), cs2.size = 2 ∧ CellsAt w2 (⟨b1, 0, none⟩ : Addr) cs2.toList ∧
      (callP Try.prog 7 #[(Value.agg cs2)] w2 (fun v4 w4 =>
          dT v4 fun vs2 =>
          optP (vs2[0]?) fun v5 =>
          dI .i64 v5 fun x3 =>
          optP (vs2[1]?) fun v6 =>
          dI .i64 v6 fun x4 =>
          ∃ (cs3 : Array Value), cs3.size = 2 ∧ CellsAt w4 (⟨b1, 0, none⟩ : Addr) cs3.toList ∧
          (callP Try.prog 10 #[(Value.agg cs3), (Value.int .i64 a1), (Value.int .i64 a2)] w4 (fun v7 w6 =>
              dT v7 fun vs3 =>
              optP (vs3[0]?) fun v8 =>
              dI .i64 v8 fun x5 =>
              optP (vs3[1]?) fun v9 =>
              dI .i64 v9 fun x6 =>
              ∃ (cs4 : Array Value), cs4.size = 2 ∧ CellsAt w6 (⟨b1, 0, none⟩ : Addr) cs4.toList ∧
              (callP Try.prog 11 #[(Value.agg cs4)] w6 (fun v10 w8 =>
                  dB v10 fun b2 =>
                  cond (!b2) (
                    callP Try.prog 6 #[] w8 (fun v11 w10 =>
                      dB v11 fun b3 =>
                      cond b3 (
                        ∃ (cs5 : Array Value), cs5.size = 2 ∧ CellsAt w10 (⟨b1, 0, none⟩ : Addr) cs5.toList ∧
                        (callP Try.prog 12 #[(Value.agg cs5)] w10 (fun v12 w12 =>
                          dI .i64 v12 fun x7 =>
                          cond (x7 == 1) (
                          cond (x2 == 1) (
                          cond (x4 == x2) (
                          cond (x6 == x2) (
                          cond (x1 == 0) (
                          cond (x3 == 0) (
                          R (.returned (Value.bool (x5 == 0))) w12) (
                          R (.returned (Value.bool false)) w12)) (
                          R (.returned (Value.bool false)) w12)) (
                          R (.returned (Value.bool false)) w12)) (
                          R (.returned (Value.bool false)) w12)) (
                          R (.returned (Value.bool false)) w12)) (
                          R (.returned (Value.bool false)) w12)) (fun ch w13 => R (.panicked ch) w13))) (
                        R (.returned (Value.bool false)) w10)) (fun ch w11 => R (.panicked ch) w11)) (
                    callP Try.prog 6 #[] w8 (fun v13 w14 =>
                      dB v13 fun b4 =>
                      cond (!b4) (
                        R (.returned (Value.bool false)) w14) (
                        ∃ (cs6 : Array Value), cs6.size = 2 ∧ CellsAt w14 (⟨b1, 0, none⟩ : Addr) cs6.toList ∧
                        (callP Try.prog 12 #[(Value.agg cs6)] w14 (fun v14 w16 =>
                          dI .i64 v14 fun x8 =>
                          cond (x8 != 0) (
                          R (.returned (Value.bool false)) w16) (
                          cond (x2 != 0) (
                          R (.returned (Value.bool false)) w16) (
                          cond (x4 != 0) (
                          R (.returned (Value.bool false)) w16) (
                          ∃ (x9 : Int), w16.cell? (⟨b1, 0, none⟩ : Addr) = some (Value.int .i64 x9) ∧
                          (∃ (x10 : Int), w16.cell? (⟨b1, 1, none⟩ : Addr) = some (Value.int .i64 x10) ∧
                          (cond (x1 != (IntKind.i64.wrap (40 + (IntKind.i64.wrap (x9 * x10))))) (
                          R (.returned (Value.bool false)) w16) (
                          ∃ (cs7 : Array Value), cs7.size = 2 ∧ CellsAt w16 (⟨b1, 0, none⟩ : Addr) cs7.toList ∧
                          (callP Try.prog 13 #[(Value.agg cs7)] w16 (fun v15 w18 =>
                          dI .i64 v15 fun x11 =>
                          cond (x3 != x11) (
                          R (.returned (Value.bool false)) w18) (
                          cond (decide (x3 < 4)) (
                          R (.returned (Value.bool false)) w18) (
                          cond (decide (a1 < 0)) (
                          stopcocklaw06_PlatSizes.k1 a1 a2 b1 x5 x6 true w18 R) (
                          cond (decide (a1 > 15)) (
                          stopcocklaw06_PlatSizes.k1 a1 a2 b1 x5 x6 true w18 R) (
                          cond (decide (a2 < 1)) (
                          stopcocklaw06_PlatSizes.k1 a1 a2 b1 x5 x6 true w18 R) (
                          stopcocklaw06_PlatSizes.k1 a1 a2 b1 x5 x6 (decide (a2 > 4096)) w18 R)))))) (fun ch w19 => R (.panicked ch) w19))))))))) (fun ch w17 => R (.panicked ch) w17)))) (fun ch w15 => R (.panicked ch) w15))) (fun ch w9 => R (.panicked ch) w9))) (fun ch w7 => R (.panicked ch) w7))) (fun ch w5 => R (.panicked ch) w5))) (fun ch w3 => R (.panicked ch) w3))
abbrev stopcocklaw06_PlatSizes.C (a0_0 : Int) (a0_1 : Int) (a1 : Int) (a2 : Int) (w : World) (R : Ending → World → Prop) : Prop := Calls Try.prog 5 #[(Value.agg #[(Value.int .i64 a0_0), (Value.int .i64 a0_1)]), (Value.int .i64 a1), (Value.int .i64 a2)] w R
noncomputable def stopcocklaw06_PlatSizes.code : Code := (Try.f5.body).getD .skip
noncomputable def stopcocklaw06_PlatSizes.sk (R : Ending → World → Prop) : Sk := (.seq .leaf (.seq .leaf (.seq .leaf (.seq .leaf (.seq .leaf (.seq .leaf (.seq (.cut [(1, .int .i64), (2, .int .i64), (3, .blk), (11, .int .i64), (12, .int .i64), (113, .bool)] (fun (t1 : Int) (t2 : Int) (t3 : Nat) (t11 : Int) (t12 : Int) (t113 : Bool) (w : World) => stopcocklaw06_PlatSizes.k1 t1 t2 t3 t11 t12 t113 w R) .leaf .leaf) .leaf)))))))
def stopcocklaw06_PlatSizes.owed (R : Ending → World → Prop) : Prop :=
  (∀ (t1 : Int) (t2 : Int) (t3 : Nat) (t11 : Int) (t12 : Int) (t113 : Bool) (w : World), stopcocklaw06_PlatSizes.k1 t1 t2 t3 t11 t12 t113 w R → stopcocklaw06_PlatSizes.k1 t1 t2 t3 t11 t12 t113 w R) ∧ True
theorem stopcocklaw06_PlatSizes.pays (R : Ending → World → Prop) : stopcocklaw06_PlatSizes.owed R := ⟨(fun _ _ _ _ _ _ _ h => h), trivial⟩
set_option maxRecDepth 100000 in
theorem stopcocklaw06_PlatSizes.ok {a0_0 : Int} {a0_1 : Int} {a1 : Int} {a2 : Int} {w : World} {R : Ending → World → Prop} (h : stopcocklaw06_PlatSizes.main a0_0 a0_1 a1 a2 w R) : stopcocklaw06_PlatSizes.C a0_0 a0_1 a1 a2 w R :=
  ev_ok cxok (c := cx) Try.func5 (code := stopcocklaw06_PlatSizes.code) (by kernel_rfl) [.tmp 6] (by kernel_rfl) 138 (by kernel_rfl) (stopcocklaw06_PlatSizes.sk R) (args := [(Value.agg #[(Value.int .i64 a0_0), (Value.int .i64 a0_1)]), (Value.int .i64 a1), (Value.int .i64 a2)]) (Nat.le_of_ble_eq_true rfl) (by kernel_rfl) (o := stopcocklaw06_PlatSizes.owed R) (by kernel_rfl) (stopcocklaw06_PlatSizes.pays R) h

/-! ### stopcock/plat.Bound: function 10 -/
def plat_Bound.main (a0_0 : Int) (a0_1 : Int) (a1 : Int) (a2 : Int) (w : World) (R : Ending → World → Prop) : Prop :=
  newP w #[(Value.int .i64 a0_0), (Value.int .i64 a0_1)] 23 fun b1 w1 =>
  ∃ (cs1 : Array Value), cs1.size = 2 ∧ CellsAt w1 (⟨b1, 0, none⟩ : Addr) cs1.toList ∧
  (callP Try.prog 12 #[(Value.agg cs1)] w1 (fun v1 w2 =>
      dI .i64 v1 fun x1 =>
      cond (x1 != 0) (
        R (.returned (Value.tuple #[(Value.int .i64 0), (Value.int .i64 x1)])) w2) (
        cond (decide (a1 < 0)) (
          R (.returned (Value.tuple #[(Value.int .i64 0), (Value.int .i64 1)])) w2) (
          cond (decide (a1 ≥ 16)) (
            R (.returned (Value.tuple #[(Value.int .i64 0), (Value.int .i64 1)])) w2) (
            cond (decide (a2 < 1)) (
              R (.returned (Value.tuple #[(Value.int .i64 0), (Value.int .i64 1)])) w2) (
              cond (decide (a2 > 4096)) (
                R (.returned (Value.tuple #[(Value.int .i64 0), (Value.int .i64 1)])) w2) (
                ∃ (x2 : Int), w2.cell? (⟨b1, 0, none⟩ : Addr) = some (Value.int .i64 x2) ∧
                (∃ (x3 : Int), w2.cell? (⟨b1, 1, none⟩ : Addr) = some (Value.int .i64 x3) ∧
                  (R (.returned (Value.tuple #[(Value.int .i64 (IntKind.i64.wrap ((IntKind.i64.wrap ((IntKind.i64.wrap (2 * a2)) * (IntKind.i64.wrap (a1 + 1)))) * (IntKind.i64.wrap ((IntKind.i64.wrap (x2 * x3)) + 2))))), (Value.int .i64 0)])) w2)))))))) (fun ch w3 => R (.panicked ch) w3))
abbrev plat_Bound.C (a0_0 : Int) (a0_1 : Int) (a1 : Int) (a2 : Int) (w : World) (R : Ending → World → Prop) : Prop := Calls Try.prog 10 #[(Value.agg #[(Value.int .i64 a0_0), (Value.int .i64 a0_1)]), (Value.int .i64 a1), (Value.int .i64 a2)] w R
noncomputable def plat_Bound.code : Code := (Try.f10.body).getD .skip
noncomputable def plat_Bound.sk (R : Ending → World → Prop) : Sk := .leaf
def plat_Bound.owed (R : Ending → World → Prop) : Prop :=
  True
theorem plat_Bound.pays (R : Ending → World → Prop) : plat_Bound.owed R := trivial
set_option maxRecDepth 100000 in
theorem plat_Bound.ok {a0_0 : Int} {a0_1 : Int} {a1 : Int} {a2 : Int} {w : World} {R : Ending → World → Prop} (h : plat_Bound.main a0_0 a0_1 a1 a2 w R) : plat_Bound.C a0_0 a0_1 a1 a2 w R :=
  ev_ok cxok (c := cx) Try.func10 (code := plat_Bound.code) (by kernel_rfl) [.tmp 6, .tmp 7] (by kernel_rfl) 40 (by kernel_rfl) (plat_Bound.sk R) (args := [(Value.agg #[(Value.int .i64 a0_0), (Value.int .i64 a0_1)]), (Value.int .i64 a1), (Value.int .i64 a2)]) (Nat.le_of_ble_eq_true rfl) (by kernel_rfl) (o := plat_Bound.owed R) (by kernel_rfl) (plat_Bound.pays R) h

/-! ### stopcock/stopcockref06.May: function 11 -/
def stopcockref06_May.main (a0_0 : Int) (a0_1 : Int) (w : World) (R : Ending → World → Prop) : Prop :=
  newP w #[(Value.int .i64 a0_0), (Value.int .i64 a0_1)] 23 fun b1 w1 =>
  ∃ (x1 : Int), w1.cell? (⟨b1, 0, none⟩ : Addr) = some (Value.int .i64 x1) ∧
  (cond (decide (x1 ≥ 6)) (
      ∃ (x2 : Int), w1.cell? (⟨b1, 0, none⟩ : Addr) = some (Value.int .i64 x2) ∧
      (cond (decide (x2 ≤ 24)) (
          ∃ (x3 : Int), w1.cell? (⟨b1, 1, none⟩ : Addr) = some (Value.int .i64 x3) ∧
          (cond (decide (x3 ≥ 2)) (
              ∃ (x4 : Int), w1.cell? (⟨b1, 1, none⟩ : Addr) = some (Value.int .i64 x4) ∧
              (R (.returned (Value.bool (decide (x4 ≤ 16)))) w1)) (
              R (.returned (Value.bool false)) w1))) (
          R (.returned (Value.bool false)) w1))) (
      R (.returned (Value.bool false)) w1))
abbrev stopcockref06_May.C (a0_0 : Int) (a0_1 : Int) (w : World) (R : Ending → World → Prop) : Prop := Calls Try.prog 11 #[(Value.agg #[(Value.int .i64 a0_0), (Value.int .i64 a0_1)])] w R
noncomputable def stopcockref06_May.code : Code := (Try.f11.body).getD .skip
noncomputable def stopcockref06_May.sk (R : Ending → World → Prop) : Sk := .leaf
def stopcockref06_May.owed (R : Ending → World → Prop) : Prop :=
  True
theorem stopcockref06_May.pays (R : Ending → World → Prop) : stopcockref06_May.owed R := trivial
set_option maxRecDepth 100000 in
theorem stopcockref06_May.ok {a0_0 : Int} {a0_1 : Int} {w : World} {R : Ending → World → Prop} (h : stopcockref06_May.main a0_0 a0_1 w R) : stopcockref06_May.C a0_0 a0_1 w R :=
  ev_ok cxok (c := cx) Try.func11 (code := stopcockref06_May.code) (by kernel_rfl) [.tmp 2] (by kernel_rfl) 21 (by kernel_rfl) (stopcockref06_May.sk R) (args := [(Value.agg #[(Value.int .i64 a0_0), (Value.int .i64 a0_1)])]) (Nat.le_of_ble_eq_true rfl) (by kernel_rfl) (o := stopcockref06_May.owed R) (by kernel_rfl) (stopcockref06_May.pays R) h

/-! ### stopcock/stopcockref06.Capacity: function 13 -/
def stopcockref06_Capacity.main (a0_0 : Int) (a0_1 : Int) (w : World) (R : Ending → World → Prop) : Prop :=
  newP w #[(Value.int .i64 a0_0), (Value.int .i64 a0_1)] 23 fun b1 w1 =>
  ∃ (x1 : Int), w1.cell? (⟨b1, 0, none⟩ : Addr) = some (Value.int .i64 x1) ∧
  (∃ (x2 : Int), w1.cell? (⟨b1, 1, none⟩ : Addr) = some (Value.int .i64 x2) ∧
    (R (.returned (Value.int .i64 (IntKind.i64.wrap ((IntKind.i64.wrap (x1 - 4)) * x2)))) w1))
abbrev stopcockref06_Capacity.C (a0_0 : Int) (a0_1 : Int) (w : World) (R : Ending → World → Prop) : Prop := Calls Try.prog 13 #[(Value.agg #[(Value.int .i64 a0_0), (Value.int .i64 a0_1)])] w R
noncomputable def stopcockref06_Capacity.code : Code := (Try.f13.body).getD .skip
noncomputable def stopcockref06_Capacity.sk (R : Ending → World → Prop) : Sk := .leaf
def stopcockref06_Capacity.owed (R : Ending → World → Prop) : Prop :=
  True
theorem stopcockref06_Capacity.pays (R : Ending → World → Prop) : stopcockref06_Capacity.owed R := trivial
set_option maxRecDepth 100000 in
theorem stopcockref06_Capacity.ok {a0_0 : Int} {a0_1 : Int} {w : World} {R : Ending → World → Prop} (h : stopcockref06_Capacity.main a0_0 a0_1 w R) : stopcockref06_Capacity.C a0_0 a0_1 w R :=
  ev_ok cxok (c := cx) Try.func13 (code := stopcockref06_Capacity.code) (by kernel_rfl) [.tmp 2] (by kernel_rfl) 9 (by kernel_rfl) (stopcockref06_Capacity.sk R) (args := [(Value.agg #[(Value.int .i64 a0_0), (Value.int .i64 a0_1)])]) (Nat.le_of_ble_eq_true rfl) (by kernel_rfl) (o := stopcockref06_Capacity.owed R) (by kernel_rfl) (stopcockref06_Capacity.pays R) h

end Go.Proofs.Ytmkbcpbondjfjaa.G

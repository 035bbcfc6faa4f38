/- Statements of functions, and that their calls do what they say. Printed by wip/tool/dec.py. Conditions: none. -/
import Derived.Test.YtokepljpieboiaaG0
namespace Go.Proofs.Ytokepljpieboiaa.G
open Go.Dec
set_option linter.unusedVariables false

/-! ### stopcock/stopcockref01.Make: function 38 -/
def stopcockref01_Make.main (a0 : Int) (a1 : Int) (w : World) (R : Ending → World → Prop) : Prop :=
  R (.returned (Value.complex .f64 (FloatKind.f64.nearest a0) (FloatKind.f64.nearest a1))) w
abbrev stopcockref01_Make.C (a0 : Int) (a1 : Int) (w : World) (R : Ending → World → Prop) : Prop := Calls Try.prog 38 #[(Value.int .i64 a0), (Value.int .i64 a1)] w R
noncomputable def stopcockref01_Make.code : Code := (Try.f38.body).getD .skip
noncomputable def stopcockref01_Make.sk (R : Ending → World → Prop) : Sk := .leaf
def stopcockref01_Make.owed (R : Ending → World → Prop) : Prop :=
  True
theorem stopcockref01_Make.pays (R : Ending → World → Prop) : stopcockref01_Make.owed R := trivial
set_option maxRecDepth 100000 in
theorem stopcockref01_Make.ok {a0 : Int} {a1 : Int} {w : World} {R : Ending → World → Prop} (h : stopcockref01_Make.main a0 a1 w R) : stopcockref01_Make.C a0 a1 w R :=
  ev_ok cxok (c := cx) Try.func38 (code := stopcockref01_Make.code) (by kernel_rfl) [.tmp 4] (by kernel_rfl) 10 (by kernel_rfl) (stopcockref01_Make.sk R) (args := [(Value.int .i64 a0), (Value.int .i64 a1)]) (Nat.le_of_ble_eq_true rfl) (by kernel_rfl) (o := stopcockref01_Make.owed R) (by kernel_rfl) (stopcockref01_Make.pays R) h

/-! ### stopcock/stopcockref10.Fit: function 39 -/
def stopcockref10_Fit.main (a0 : Array Value) (a1_0 : Int) (a1_1 : Int) (w : World) (R : Ending → World → Prop) : Prop :=
  newP w a0 29 fun b1 w1 =>
  newP w1 #[(Value.int .i64 a1_0), (Value.int .i64 a1_1)] 31 fun b2 w2 =>
  ∃ (cs1 : Array Value), cs1.size = 24 ∧ CellsAt w2 (⟨b1, 0, none⟩ : Addr) cs1.toList ∧
  (∃ (cs2 : Array Value), cs2.size = 2 ∧ CellsAt w2 (⟨b2, 0, none⟩ : Addr) cs2.toList ∧
    (callP Try.prog 54 #[(Value.agg cs1), (Value.agg cs2)] w2 (fun v1 w3 =>
        dI .i64 v1 fun x1 =>
        cond (x1 == 0) (
          ∃ (cs3 : Array Value), cs3.size = 24 ∧ CellsAt w3.drew (⟨b1, 0, none⟩ : Addr) cs3.toList ∧
          (∃ (cs4 : Array Value), cs4.size = 2 ∧ CellsAt w3.drew (⟨b2, 0, none⟩ : Addr) cs4.toList ∧
            (callP Try.prog 55 #[(Value.agg cs3)] w3.drew (fun v2 w5 =>
                dS v2 fun p1 n1 c1 =>
                chk (decide (cs4.size = 2)) (
                  CellsAt w5 (⟨b2, 0, none⟩ : Addr) cs4.toList ∧
                  (callP Try.prog 56 #[(Value.agg cs4)] w5 (fun v3 w7 =>
                      dI .i64 v3 fun x2 =>
                      cond (decide (((n1 : Nat) : Int) > x2)) (
                        R (.returned (Value.int .i64 9)) w7) (
                        R (.returned (Value.int .i64 x1)) w7)) (fun ch w8 => R (.panicked ch) w8)))) (fun ch w6 => R (.panicked ch) w6)))) (
          R (.returned (Value.int .i64 x1)) w3.drew)) (fun ch w4 => R (.panicked ch) w4)))
abbrev stopcockref10_Fit.C (a0 : Array Value) (a1_0 : Int) (a1_1 : Int) (w : World) (R : Ending → World → Prop) : Prop := Calls Try.prog 39 #[(Value.agg a0), (Value.agg #[(Value.int .i64 a1_0), (Value.int .i64 a1_1)])] w R
noncomputable def stopcockref10_Fit.code : Code := (Try.f39.body).getD .skip
noncomputable def stopcockref10_Fit.sk (R : Ending → World → Prop) : Sk := .leaf
def stopcockref10_Fit.owed (R : Ending → World → Prop) : Prop :=
  True
theorem stopcockref10_Fit.pays (R : Ending → World → Prop) : stopcockref10_Fit.owed R := trivial
set_option maxRecDepth 100000 in
theorem stopcockref10_Fit.ok {a0 : Array Value} {a1_0 : Int} {a1_1 : Int} {w : World} {R : Ending → World → Prop} (h : stopcockref10_Fit.main a0 a1_0 a1_1 w R) : stopcockref10_Fit.C a0 a1_0 a1_1 w R :=
  ev_ok cxok (c := cx) Try.func39 (code := stopcockref10_Fit.code) (by kernel_rfl) [.tmp 4] (by kernel_rfl) 20 (by kernel_rfl) (stopcockref10_Fit.sk R) (args := [(Value.agg a0), (Value.agg #[(Value.int .i64 a1_0), (Value.int .i64 a1_1)])]) (Nat.le_of_ble_eq_true rfl) (by kernel_rfl) (o := stopcockref10_Fit.owed R) (by kernel_rfl) (stopcockref10_Fit.pays R) h

/-! ### stopcock/stopcockref13.put: function 40 -/
def stopcockref13_put.main (a0p : Option Addr) (a0n : Nat) (a0c : Nat) (a1 : Int) (a2 : Int) (w : World) (R : Ending → World → Prop) : Prop :=
  callP Try.prog 57 #[(Value.slice a0p a0n a0c), (Value.int .i64 a1), (Value.int .i64 a2)] w (fun v1 w1 =>
    dT v1 fun vs1 =>
    optP (vs1[0]?) fun v2 =>
    dS v2 fun p1 n1 c1 =>
    optP (vs1[1]?) fun v3 =>
    dI .i64 v3 fun x1 =>
    R (.returned (Value.slice p1 n1 c1)) w1) (fun ch w2 => R (.panicked ch) w2)
abbrev stopcockref13_put.C (a0p : Option Addr) (a0n : Nat) (a0c : Nat) (a1 : Int) (a2 : Int) (w : World) (R : Ending → World → Prop) : Prop := Calls Try.prog 40 #[(Value.slice a0p a0n a0c), (Value.int .i64 a1), (Value.int .i64 a2)] w R
noncomputable def stopcockref13_put.code : Code := (Try.f40.body).getD .skip
noncomputable def stopcockref13_put.sk (R : Ending → World → Prop) : Sk := .leaf
def stopcockref13_put.owed (R : Ending → World → Prop) : Prop :=
  True
theorem stopcockref13_put.pays (R : Ending → World → Prop) : stopcockref13_put.owed R := trivial
set_option maxRecDepth 100000 in
theorem stopcockref13_put.ok {a0p : Option Addr} {a0n : Nat} {a0c : Nat} {a1 : Int} {a2 : Int} {w : World} {R : Ending → World → Prop} (h : stopcockref13_put.main a0p a0n a0c a1 a2 w R) : stopcockref13_put.C a0p a0n a0c a1 a2 w R :=
  ev_ok cxok (c := cx) Try.func40 (code := stopcockref13_put.code) (by kernel_rfl) [.tmp 6] (by kernel_rfl) 17 (by kernel_rfl) (stopcockref13_put.sk R) (args := [(Value.slice a0p a0n a0c), (Value.int .i64 a1), (Value.int .i64 a2)]) (Nat.le_of_ble_eq_true rfl) (by kernel_rfl) (o := stopcockref13_put.owed R) (by kernel_rfl) (stopcockref13_put.pays R) h

/-! ### stopcock/stopcockref01.Flat: function 41 -/
def stopcockref01_Flat.main (a0r : Nat) (a0m : Nat) (a1 : Int) (w : World) (R : Ending → World → Prop) : Prop :=
  cond (decide (a1 < 1)) (
    R (.returned (Value.tuple #[(Value.int .i64 0), (Value.int .i64 1)])) w) (
    cond (decide (a1 > 16)) (
      R (.returned (Value.tuple #[(Value.int .i64 0), (Value.int .i64 1)])) w) (
      callP Try.prog 58 #[(Value.complex .f64 a0r a0m)] w (fun v1 w1 =>
        dT v1 fun vs1 =>
        optP (vs1[0]?) fun v2 =>
        dI .i64 v2 fun x1 =>
        optP (vs1[1]?) fun v3 =>
        dI .i64 v3 fun x2 =>
        optP (vs1[2]?) fun v4 =>
        dI .i64 v4 fun x3 =>
        cond (x3 != 0) (
          R (.returned (Value.tuple #[(Value.int .i64 0), (Value.int .i64 x3)])) w1) (
          cond (decide (x2 ≥ a1)) (
            R (.returned (Value.tuple #[(Value.int .i64 0), (Value.int .i64 5)])) w1) (
            R (.returned (Value.tuple #[(Value.int .i64 (IntKind.i64.wrap ((IntKind.i64.wrap (x1 * a1)) + x2))), (Value.int .i64 0)])) w1))) (fun ch w2 => R (.panicked ch) w2)))
abbrev stopcockref01_Flat.C (a0r : Nat) (a0m : Nat) (a1 : Int) (w : World) (R : Ending → World → Prop) : Prop := Calls Try.prog 41 #[(Value.complex .f64 a0r a0m), (Value.int .i64 a1)] w R
noncomputable def stopcockref01_Flat.code : Code := (Try.f41.body).getD .skip
noncomputable def stopcockref01_Flat.sk (R : Ending → World → Prop) : Sk := .leaf
def stopcockref01_Flat.owed (R : Ending → World → Prop) : Prop :=
  True
theorem stopcockref01_Flat.pays (R : Ending → World → Prop) : stopcockref01_Flat.owed R := trivial
set_option maxRecDepth 100000 in
theorem stopcockref01_Flat.ok {a0r : Nat} {a0m : Nat} {a1 : Int} {w : World} {R : Ending → World → Prop} (h : stopcockref01_Flat.main a0r a0m a1 w R) : stopcockref01_Flat.C a0r a0m a1 w R :=
  ev_ok cxok (c := cx) Try.func41 (code := stopcockref01_Flat.code) (by kernel_rfl) [.tmp 4, .tmp 5] (by kernel_rfl) 32 (by kernel_rfl) (stopcockref01_Flat.sk R) (args := [(Value.complex .f64 a0r a0m), (Value.int .i64 a1)]) (Nat.le_of_ble_eq_true rfl) (by kernel_rfl) (o := stopcockref01_Flat.owed R) (by kernel_rfl) (stopcockref01_Flat.pays R) h

/-! ### stopcock/stopcockref10.Within: function 54 -/
def stopcockref10_Within.b1 (t3 : Nat) (t5p : Option Addr) (t5n : Nat) (t5c : Nat) (t6 : Int) (w : World) (R : Ending → World → Prop) (C1 : Nat → Option Addr → Nat → Nat → Int → World → Prop) : Prop :=
  cond (decide (t6 < ((t5n : Nat) : Int))) (
    ∃ (cs4 : Array Value), cs4.size = 2 ∧ CellsAt w.drew (⟨t3, 0, none⟩ : Addr) cs4.toList ∧
    (chk (decide (0 ≤ t6)) (
        chk (decide (t6 < ((t5n : Nat) : Int))) (
          optP t5p fun d1 =>
          ∃ (r1 : Nat) (m1 : Nat), w.drew.cell? (d1.add (t6.toNat * 1)) = some (Value.complex .f64 r1 m1) ∧
          (callP Try.prog 70 #[(Value.agg cs4), (Value.complex .f64 r1 m1)] w.drew (fun v4 w9 =>
              dT v4 fun vs1 =>
              optP (vs1[0]?) fun v5 =>
              dI .i64 v5 fun x1 =>
              optP (vs1[1]?) fun v6 =>
              dI .i64 v6 fun x2 =>
              cond (x2 != 0) (
                R (.returned (Value.int .i64 5)) w9) (
                C1 t3 t5p t5n t5c (IntKind.i64.wrap (t6 + 1)) w9)) (fun ch w10 => R (.panicked ch) w10)))))) (
    R (.returned (Value.int .i64 0)) w)
def stopcockref10_Within.l1 (t3 : Nat) (t5p : Option Addr) (t5n : Nat) (t5c : Nat) (t6 : Int) (w : World) (R : Ending → World → Prop) : Prop :=
  ∃ (I : Nat → Option Addr → Nat → Nat → Int → World → Prop) (m : Nat → Option Addr → Nat → Nat → Int → World → Nat), I t3 t5p t5n t5c t6 w ∧
  ∀ (t3 : Nat) (t5p : Option Addr) (t5n : Nat) (t5c : Nat) (t6 : Int) (w : World), I t3 t5p t5n t5c t6 w →
  stopcockref10_Within.b1 t3 t5p t5n t5c t6 w R (fun t3' t5p' t5n' t5c' t6' w' => I t3' t5p' t5n' t5c' t6' w' ∧ m t3' t5p' t5n' t5c' t6' w' < m t3 t5p t5n t5c t6 w)
def stopcockref10_Within.main (a0 : Array Value) (a1_0 : Int) (a1_1 : Int) (w : World) (R : Ending → World → Prop) : Prop :=
  newP w a0 29 fun b1 w1 =>
  newP w1 #[(Value.int .i64 a1_0), (Value.int .i64 a1_1)] 31 fun b2 w2 =>
  ∃ (cs1 : Array Value), cs1.size = 2 ∧ CellsAt w2 (⟨b2, 0, none⟩ : Addr) cs1.toList ∧
  (callP Try.prog 68 #[(Value.agg cs1)] w2 (fun v1 w3 =>
      dB v1 fun b3 =>
      cond (!b3) (
        R (.returned (Value.int .i64 1)) w3) (
        ∃ (cs2 : Array Value), cs2.size = 24 ∧ CellsAt w3 (⟨b1, 0, none⟩ : Addr) cs2.toList ∧
        (callP Try.prog 21 #[(Value.agg cs2)] w3 (fun v2 w5 =>
            dB v2 fun b4 =>
            cond (!b4) (
              R (.returned (Value.int .i64 2)) w5) (
              ∃ (cs3 : Array Value), cs3.size = 24 ∧ CellsAt w5 (⟨b1, 0, none⟩ : Addr) cs3.toList ∧
              (callP Try.prog 69 #[(Value.agg cs3)] w5 (fun v3 w7 =>
                  dS v3 fun p1 n1 c1 =>
                  stopcockref10_Within.l1 b2 p1 n1 c1 0 w7 R) (fun ch w8 => R (.panicked ch) w8)))) (fun ch w6 => R (.panicked ch) w6)))) (fun ch w4 => R (.panicked ch) w4))
abbrev stopcockref10_Within.C (a0 : Array Value) (a1_0 : Int) (a1_1 : Int) (w : World) (R : Ending → World → Prop) : Prop := Calls Try.prog 54 #[(Value.agg a0), (Value.agg #[(Value.int .i64 a1_0), (Value.int .i64 a1_1)])] w R
noncomputable def stopcockref10_Within.code : Code := (Try.f54.body).getD .skip
noncomputable def stopcockref10_Within.sk (R : Ending → World → Prop) : Sk := (.seq .leaf (.seq .leaf (.seq .leaf (.seq .leaf (.seq (.seq .leaf (.block (.loop [(3, .blk), (5, .slice), (6, .int .i64)] (fun (t3 : Nat) (t5p : Option Addr) (t5n : Nat) (t5c : Nat) (t6 : Int) (w : World) => stopcockref10_Within.l1 t3 t5p t5n t5c t6 w R) (fun (C1 : Nat → Option Addr → Nat → Nat → Int → World → Prop) => .leaf)))) .leaf)))))
def stopcockref10_Within.owed (R : Ending → World → Prop) : Prop :=
  (∀ (t3 : Nat) (t5p : Option Addr) (t5n : Nat) (t5c : Nat) (t6 : Int) (w : World), stopcockref10_Within.l1 t3 t5p t5n t5c t6 w R → stopcockref10_Within.l1 t3 t5p t5n t5c t6 w R) ∧ (∀ (C1 : Nat → Option Addr → Nat → Nat → Int → World → Prop), True) ∧ True
theorem stopcockref10_Within.pays (R : Ending → World → Prop) : stopcockref10_Within.owed R := ⟨(fun _ _ _ _ _ _ h => h), (fun _ => trivial), trivial⟩
set_option maxRecDepth 100000 in
theorem stopcockref10_Within.ok {a0 : Array Value} {a1_0 : Int} {a1_1 : Int} {w : World} {R : Ending → World → Prop} (h : stopcockref10_Within.main a0 a1_0 a1_1 w R) : stopcockref10_Within.C a0 a1_0 a1_1 w R :=
  ev_ok cxok (c := cx) Try.func54 (code := stopcockref10_Within.code) (by kernel_rfl) [.tmp 4] (by kernel_rfl) 34 (by kernel_rfl) (stopcockref10_Within.sk R) (args := [(Value.agg a0), (Value.agg #[(Value.int .i64 a1_0), (Value.int .i64 a1_1)])]) (Nat.le_of_ble_eq_true rfl) (by kernel_rfl) (o := stopcockref10_Within.owed R) (by kernel_rfl) (stopcockref10_Within.pays R) h

/-! ### stopcock/stopcockref10.Places: function 55 -/
def stopcockref10_Places.main (a0 : Array Value) (w : World) (R : Ending → World → Prop) : Prop :=
  newP w a0 29 fun b1 w1 =>
  ∃ (cs1 : Array Value), cs1.size = 24 ∧ CellsAt w1 (⟨b1, 0, none⟩ : Addr) cs1.toList ∧
  (callP Try.prog 69 #[(Value.agg cs1)] w1 (fun v1 w2 =>
      dS v1 fun p1 n1 c1 =>
      callP Try.prog 71 #[(Value.slice p1 n1 c1)] w2 (fun v2 w4 =>
        dT v2 fun vs1 =>
        optP (vs1[0]?) fun v3 =>
        dS v3 fun p2 n2 c2 =>
        optP (vs1[1]?) fun v4 =>
        dI .i64 v4 fun x1 =>
        R (.returned (Value.slice p2 n2 c2)) w4) (fun ch w5 => R (.panicked ch) w5)) (fun ch w3 => R (.panicked ch) w3))
abbrev stopcockref10_Places.C (a0 : Array Value) (w : World) (R : Ending → World → Prop) : Prop := Calls Try.prog 55 #[(Value.agg a0)] w R
noncomputable def stopcockref10_Places.code : Code := (Try.f55.body).getD .skip
noncomputable def stopcockref10_Places.sk (R : Ending → World → Prop) : Sk := .leaf
def stopcockref10_Places.owed (R : Ending → World → Prop) : Prop :=
  True
theorem stopcockref10_Places.pays (R : Ending → World → Prop) : stopcockref10_Places.owed R := trivial
set_option maxRecDepth 100000 in
theorem stopcockref10_Places.ok {a0 : Array Value} {w : World} {R : Ending → World → Prop} (h : stopcockref10_Places.main a0 w R) : stopcockref10_Places.C a0 w R :=
  ev_ok cxok (c := cx) Try.func55 (code := stopcockref10_Places.code) (by kernel_rfl) [.tmp 2] (by kernel_rfl) 12 (by kernel_rfl) (stopcockref10_Places.sk R) (args := [(Value.agg a0)]) (Nat.le_of_ble_eq_true rfl) (by kernel_rfl) (o := stopcockref10_Places.owed R) (by kernel_rfl) (stopcockref10_Places.pays R) h

/-! ### stopcock/stopcockref06.Capacity: function 56 -/
def stopcockref06_Capacity.main (a0_0 : Int) (a0_1 : Int) (w : World) (R : Ending → World → Prop) : Prop :=
  newP w #[(Value.int .i64 a0_0), (Value.int .i64 a0_1)] 31 fun b1 w1 =>
  ∃ (x1 : Int), w1.cell? (⟨b1, 0, none⟩ : Addr) = some (Value.int .i64 x1) ∧
  (∃ (x2 : Int), w1.cell? (⟨b1, 1, none⟩ : Addr) = some (Value.int .i64 x2) ∧
    (R (.returned (Value.int .i64 (IntKind.i64.wrap ((IntKind.i64.wrap (x1 - 4)) * x2)))) w1))
abbrev stopcockref06_Capacity.C (a0_0 : Int) (a0_1 : Int) (w : World) (R : Ending → World → Prop) : Prop := Calls Try.prog 56 #[(Value.agg #[(Value.int .i64 a0_0), (Value.int .i64 a0_1)])] w R
noncomputable def stopcockref06_Capacity.code : Code := (Try.f56.body).getD .skip
noncomputable def stopcockref06_Capacity.sk (R : Ending → World → Prop) : Sk := .leaf
def stopcockref06_Capacity.owed (R : Ending → World → Prop) : Prop :=
  True
theorem stopcockref06_Capacity.pays (R : Ending → World → Prop) : stopcockref06_Capacity.owed R := trivial
set_option maxRecDepth 100000 in
theorem stopcockref06_Capacity.ok {a0_0 : Int} {a0_1 : Int} {w : World} {R : Ending → World → Prop} (h : stopcockref06_Capacity.main a0_0 a0_1 w R) : stopcockref06_Capacity.C a0_0 a0_1 w R :=
  ev_ok cxok (c := cx) Try.func56 (code := stopcockref06_Capacity.code) (by kernel_rfl) [.tmp 2] (by kernel_rfl) 9 (by kernel_rfl) (stopcockref06_Capacity.sk R) (args := [(Value.agg #[(Value.int .i64 a0_0), (Value.int .i64 a0_1)])]) (Nat.le_of_ble_eq_true rfl) (by kernel_rfl) (o := stopcockref06_Capacity.owed R) (by kernel_rfl) (stopcockref06_Capacity.pays R) h

/-! ### stopcock/stopcockref04.Put: function 57 -/
def stopcockref04_Put.b1 (t2 : Int) (t8p : Option Addr) (t8n : Nat) (t8c : Nat) (t9 : Int) (w : World) (R : Ending → World → Prop) (C1 : Int → Option Addr → Nat → Nat → Int → World → Prop) : Prop :=
  cond (decide (t9 ≥ 0)) (
    callP Try.prog 72 #[(Value.int .i64 t9)] w (fun v2 w5 =>
      dI .i64 v2 fun x2 =>
      chk (decide (x2 ≠ 0)) (
        newP w5 #[(Value.int .u8 (IntKind.u8.wrap (Int.tmod (IntKind.i64.wrap (Int.tdiv t2 x2)) 256)))] 5 fun b2 w7 =>
        appP w7 t8p t8n t8c 1 (CellsO w7 (some ⟨b2, 0, none⟩)) 5 1 1 #[(Value.int .u8 0)] fun p2 c2 w8 =>
        C1 t2 p2 (t8n + 1) c2 (IntKind.i64.wrap (t9 - 1)) w8)) (fun ch w6 => R (.panicked ch) w6)) (
    R (.returned (Value.tuple #[(Value.slice t8p t8n t8c), (Value.int .i64 0)])) w)
def stopcockref04_Put.l1 (t2 : Int) (t8p : Option Addr) (t8n : Nat) (t8c : Nat) (t9 : Int) (w : World) (R : Ending → World → Prop) : Prop :=
  ∃ (I : Int → Option Addr → Nat → Nat → Int → World → Prop) (m : Int → Option Addr → Nat → Nat → Int → World → Nat), I t2 t8p t8n t8c t9 w ∧
  ∀ (t2 : Int) (t8p : Option Addr) (t8n : Nat) (t8c : Nat) (t9 : Int) (w : World), I t2 t8p t8n t8c t9 w →
  stopcockref04_Put.b1 t2 t8p t8n t8c t9 w R (fun t2' t8p' t8n' t8c' t9' w' => I t2' t8p' t8n' t8c' t9' w' ∧ m t2' t8p' t8n' t8c' t9' w' < m t2 t8p t8n t8c t9 w)
def stopcockref04_Put.main (a0p : Option Addr) (a0n : Nat) (a0c : Nat) (a1 : Int) (a2 : Int) (w : World) (R : Ending → World → Prop) : Prop :=
  cond (decide (a1 < 1)) (
    R (.returned (Value.tuple #[(Value.slice none 0 0), (Value.int .i64 1)])) w) (
    cond (decide (a1 > 4)) (
      R (.returned (Value.tuple #[(Value.slice none 0 0), (Value.int .i64 1)])) w) (
      cond (decide (a2 < 0)) (
        R (.returned (Value.tuple #[(Value.slice none 0 0), (Value.int .i64 5)])) w) (
        callP Try.prog 72 #[(Value.int .i64 a1)] w (fun v1 w1 =>
          dI .i64 v1 fun x1 =>
          cond (decide (a2 ≥ x1)) (
            R (.returned (Value.tuple #[(Value.slice none 0 0), (Value.int .i64 5)])) w1) (
            newP w1 #[] 5 fun b1 w3 =>
            appP w3 (some ⟨b1, 0, none⟩) 0 0 a0n (CellsO w3 a0p) 5 1 1 #[(Value.int .u8 0)] fun p1 c1 w4 =>
            stopcockref04_Put.l1 a2 p1 (0 + a0n) c1 (IntKind.i64.wrap (a1 - 1)) w4 R)) (fun ch w2 => R (.panicked ch) w2))))
abbrev stopcockref04_Put.C (a0p : Option Addr) (a0n : Nat) (a0c : Nat) (a1 : Int) (a2 : Int) (w : World) (R : Ending → World → Prop) : Prop := Calls Try.prog 57 #[(Value.slice a0p a0n a0c), (Value.int .i64 a1), (Value.int .i64 a2)] w R
noncomputable def stopcockref04_Put.code : Code := (Try.f57.body).getD .skip
noncomputable def stopcockref04_Put.sk (R : Ending → World → Prop) : Sk := (.seq .leaf (.seq .leaf (.seq .leaf (.seq .leaf (.seq (.seq .leaf (.block (.loop [(2, .int .i64), (8, .slice), (9, .int .i64)] (fun (t2 : Int) (t8p : Option Addr) (t8n : Nat) (t8c : Nat) (t9 : Int) (w : World) => stopcockref04_Put.l1 t2 t8p t8n t8c t9 w R) (fun (C1 : Int → Option Addr → Nat → Nat → Int → World → Prop) => .leaf)))) .leaf)))))
def stopcockref04_Put.owed (R : Ending → World → Prop) : Prop :=
  (∀ (t2 : Int) (t8p : Option Addr) (t8n : Nat) (t8c : Nat) (t9 : Int) (w : World), stopcockref04_Put.l1 t2 t8p t8n t8c t9 w R → stopcockref04_Put.l1 t2 t8p t8n t8c t9 w R) ∧ (∀ (C1 : Int → Option Addr → Nat → Nat → Int → World → Prop), True) ∧ True
theorem stopcockref04_Put.pays (R : Ending → World → Prop) : stopcockref04_Put.owed R := ⟨(fun _ _ _ _ _ _ h => h), (fun _ => trivial), trivial⟩
set_option maxRecDepth 100000 in
theorem stopcockref04_Put.ok {a0p : Option Addr} {a0n : Nat} {a0c : Nat} {a1 : Int} {a2 : Int} {w : World} {R : Ending → World → Prop} (h : stopcockref04_Put.main a0p a0n a0c a1 a2 w R) : stopcockref04_Put.C a0p a0n a0c a1 a2 w R :=
  ev_ok cxok (c := cx) Try.func57 (code := stopcockref04_Put.code) (by kernel_rfl) [.tmp 6, .tmp 7] (by kernel_rfl) 43 (by kernel_rfl) (stopcockref04_Put.sk R) (args := [(Value.slice a0p a0n a0c), (Value.int .i64 a1), (Value.int .i64 a2)]) (Nat.le_of_ble_eq_true rfl) (by kernel_rfl) (o := stopcockref04_Put.owed R) (by kernel_rfl) (stopcockref04_Put.pays R) h

/-! ### stopcock/stopcockref06.May: function 68 -/
def stopcockref06_May.main (a0_0 : Int) (a0_1 : Int) (w : World) (R : Ending → World → Prop) : Prop :=
  newP w #[(Value.int .i64 a0_0), (Value.int .i64 a0_1)] 31 fun b1 w1 =>
  ∃ (x1 : Int), w1.cell? (⟨b1, 0, none⟩ : Addr) = some (Value.int .i64 x1) ∧
  (cond (decide (x1 ≥ 6)) (
      ∃ (x2 : Int), w1.cell? (⟨b1, 0, none⟩ : Addr) = some (Value.int .i64 x2) ∧
      (cond (decide (x2 ≤ 24)) (
          ∃ (x3 : Int), w1.cell? (⟨b1, 1, none⟩ : Addr) = some (Value.int .i64 x3) ∧
          (cond (decide (x3 ≥ 2)) (
              ∃ (x4 : Int), w1.cell? (⟨b1, 1, none⟩ : Addr) = some (Value.int .i64 x4) ∧
              (R (.returned (Value.bool (decide (x4 ≤ 16)))) w1)) (
              R (.returned (Value.bool false)) w1))) (
          R (.returned (Value.bool false)) w1))) (
      R (.returned (Value.bool false)) w1))
abbrev stopcockref06_May.C (a0_0 : Int) (a0_1 : Int) (w : World) (R : Ending → World → Prop) : Prop := Calls Try.prog 68 #[(Value.agg #[(Value.int .i64 a0_0), (Value.int .i64 a0_1)])] w R
noncomputable def stopcockref06_May.code : Code := (Try.f68.body).getD .skip
noncomputable def stopcockref06_May.sk (R : Ending → World → Prop) : Sk := .leaf
def stopcockref06_May.owed (R : Ending → World → Prop) : Prop :=
  True
theorem stopcockref06_May.pays (R : Ending → World → Prop) : stopcockref06_May.owed R := trivial
set_option maxRecDepth 100000 in
theorem stopcockref06_May.ok {a0_0 : Int} {a0_1 : Int} {w : World} {R : Ending → World → Prop} (h : stopcockref06_May.main a0_0 a0_1 w R) : stopcockref06_May.C a0_0 a0_1 w R :=
  ev_ok cxok (c := cx) Try.func68 (code := stopcockref06_May.code) (by kernel_rfl) [.tmp 2] (by kernel_rfl) 21 (by kernel_rfl) (stopcockref06_May.sk R) (args := [(Value.agg #[(Value.int .i64 a0_0), (Value.int .i64 a0_1)])]) (Nat.le_of_ble_eq_true rfl) (by kernel_rfl) (o := stopcockref06_May.owed R) (by kernel_rfl) (stopcockref06_May.pays R) h

/-! ### stopcock/stopcockref10.all: function 69 -/
def stopcockref10_all.b2 (t1 : Nat) (t3p : Option Addr) (t3n : Nat) (t3c : Nat) (t4 : Int) (t5 : Int) (w : World) (R : Ending → World → Prop) (C1 : Nat → Option Addr → Nat → Nat → Int → World → Prop) (C2 : Nat → Option Addr → Nat → Nat → Int → Int → World → Prop) : Prop :=
  chk (decide (0 ≤ t4)) (
    chk (decide (t4 < (8 : Int))) (
      ∃ (p1 : Option Addr) (n1 : Nat) (c1 : Nat), w.cell? ((⟨t1, 16, none⟩ : Addr).add (t4.toNat * 1)) = some (Value.slice p1 n1 c1) ∧
      (cond (decide (t5 < ((n1 : Nat) : Int))) (
          chk (decide (0 ≤ t4)) (
            chk (decide (t4 < (8 : Int))) (
              ∃ (p2 : Option Addr) (n2 : Nat) (c2 : Nat), w.cell? ((⟨t1, 16, none⟩ : Addr).add (t4.toNat * 1)) = some (Value.slice p2 n2 c2) ∧
              (chk (decide (0 ≤ t5)) (
                  chk (decide (t5 < ((n2 : Nat) : Int))) (
                    optP p2 fun d1 =>
                    ∃ (r1 : Nat) (m1 : Nat), w.cell? (d1.add (t5.toNat * 1)) = some (Value.complex .f64 r1 m1) ∧
                    (cond (!(fCmp .eql r1 13830554455654793216 && fCmp .eql m1 0)) (
                        chk (decide (0 ≤ t4)) (
                          chk (decide (t4 < (8 : Int))) (
                          ∃ (p3 : Option Addr) (n3 : Nat) (c3 : Nat), w.cell? ((⟨t1, 16, none⟩ : Addr).add (t4.toNat * 1)) = some (Value.slice p3 n3 c3) ∧
                          (chk (decide (0 ≤ t5)) (
                          chk (decide (t5 < ((n3 : Nat) : Int))) (
                          optP p3 fun d2 =>
                          ∃ (r2 : Nat) (m2 : Nat), w.cell? (d2.add (t5.toNat * 1)) = some (Value.complex .f64 r2 m2) ∧
                          (newP w #[(Value.complex .f64 r2 m2)] 55 fun b3 w3 =>
                          appP w3 t3p t3n t3c 1 (CellsO w3 (some ⟨b3, 0, none⟩)) 55 1 16 #[(Value.complex .f64 0 0)] fun p4 c4 w4 =>
                          C2 t1 p4 (t3n + 1) c4 t4 (IntKind.i64.wrap (t5 + 1)) w4))))))) (
                        C2 t1 t3p t3n t3c t4 (IntKind.i64.wrap (t5 + 1)) w)))))))) (
          C1 t1 t3p t3n t3c (IntKind.i64.wrap (t4 + 1)) w))))
def stopcockref10_all.l2 (t1 : Nat) (t3p : Option Addr) (t3n : Nat) (t3c : Nat) (t4 : Int) (t5 : Int) (w : World) (R : Ending → World → Prop) (C1 : Nat → Option Addr → Nat → Nat → Int → World → Prop) : Prop :=
  ∃ (I : Nat → Option Addr → Nat → Nat → Int → Int → World → Prop) (m : Nat → Option Addr → Nat → Nat → Int → Int → World → Nat), I t1 t3p t3n t3c t4 t5 w ∧
  ∀ (t1 : Nat) (t3p : Option Addr) (t3n : Nat) (t3c : Nat) (t4 : Int) (t5 : Int) (w : World), I t1 t3p t3n t3c t4 t5 w →
  stopcockref10_all.b2 t1 t3p t3n t3c t4 t5 w R C1 (fun t1' t3p' t3n' t3c' t4' t5' w' => I t1' t3p' t3n' t3c' t4' t5' w' ∧ m t1' t3p' t3n' t3c' t4' t5' w' < m t1 t3p t3n t3c t4 t5 w)
def stopcockref10_all.b1 (t1 : Nat) (t3p : Option Addr) (t3n : Nat) (t3c : Nat) (t4 : Int) (w : World) (R : Ending → World → Prop) (C1 : Nat → Option Addr → Nat → Nat → Int → World → Prop) : Prop :=
  cond (decide (t4 < 8)) (
    stopcockref10_all.l2 t1 t3p t3n t3c t4 0 w R C1) (
    R (.returned (Value.slice t3p t3n t3c)) w)
def stopcockref10_all.l1 (t1 : Nat) (t3p : Option Addr) (t3n : Nat) (t3c : Nat) (t4 : Int) (w : World) (R : Ending → World → Prop) : Prop :=
  ∃ (I : Nat → Option Addr → Nat → Nat → Int → World → Prop) (m : Nat → Option Addr → Nat → Nat → Int → World → Nat), I t1 t3p t3n t3c t4 w ∧
  ∀ (t1 : Nat) (t3p : Option Addr) (t3n : Nat) (t3c : Nat) (t4 : Int) (w : World), I t1 t3p t3n t3c t4 w →
  stopcockref10_all.b1 t1 t3p t3n t3c t4 w R (fun t1' t3p' t3n' t3c' t4' w' => I t1' t3p' t3n' t3c' t4' w' ∧ m t1' t3p' t3n' t3c' t4' w' < m t1 t3p t3n t3c t4 w)
def stopcockref10_all.main (a0 : Array Value) (w : World) (R : Ending → World → Prop) : Prop :=
  newP w a0 29 fun b1 w1 =>
  newP w1 #[] 55 fun b2 w2 =>
  stopcockref10_all.l1 b1 (some ⟨b2, 0, none⟩) 0 0 0 w2 R
abbrev stopcockref10_all.C (a0 : Array Value) (w : World) (R : Ending → World → Prop) : Prop := Calls Try.prog 69 #[(Value.agg a0)] w R
noncomputable def stopcockref10_all.code : Code := (Try.f69.body).getD .skip
noncomputable def stopcockref10_all.sk (R : Ending → World → Prop) : Sk := (.seq .leaf (.seq .leaf (.seq (.seq .leaf (.block (.loop [(1, .blk), (3, .slice), (4, .int .i64)] (fun (t1 : Nat) (t3p : Option Addr) (t3n : Nat) (t3c : Nat) (t4 : Int) (w : World) => stopcockref10_all.l1 t1 t3p t3n t3c t4 w R) (fun (C1 : Nat → Option Addr → Nat → Nat → Int → World → Prop) => (.seq .leaf (.seq (.block (.seq .leaf (.block (.loop [(1, .blk), (3, .slice), (4, .int .i64), (5, .int .i64)] (fun (t1 : Nat) (t3p : Option Addr) (t3n : Nat) (t3c : Nat) (t4 : Int) (t5 : Int) (w : World) => stopcockref10_all.l2 t1 t3p t3n t3c t4 t5 w R C1) (fun (C2 : Nat → Option Addr → Nat → Nat → Int → Int → World → Prop) => .leaf))))) .leaf)))))) .leaf)))
def stopcockref10_all.owed (R : Ending → World → Prop) : Prop :=
  (∀ (t1 : Nat) (t3p : Option Addr) (t3n : Nat) (t3c : Nat) (t4 : Int) (w : World), stopcockref10_all.l1 t1 t3p t3n t3c t4 w R → stopcockref10_all.l1 t1 t3p t3n t3c t4 w R) ∧ (∀ (C1 : Nat → Option Addr → Nat → Nat → Int → World → Prop), (∀ (t1 : Nat) (t3p : Option Addr) (t3n : Nat) (t3c : Nat) (t4 : Int) (t5 : Int) (w : World), stopcockref10_all.l2 t1 t3p t3n t3c t4 t5 w R C1 → stopcockref10_all.l2 t1 t3p t3n t3c t4 t5 w R C1) ∧ (∀ (C2 : Nat → Option Addr → Nat → Nat → Int → Int → World → Prop), True) ∧ True) ∧ True
theorem stopcockref10_all.pays (R : Ending → World → Prop) : stopcockref10_all.owed R := ⟨(fun _ _ _ _ _ _ h => h), (fun _ => ⟨(fun _ _ _ _ _ _ _ h => h), (fun _ => trivial), trivial⟩), trivial⟩
set_option maxRecDepth 100000 in
theorem stopcockref10_all.ok {a0 : Array Value} {w : World} {R : Ending → World → Prop} (h : stopcockref10_all.main a0 w R) : stopcockref10_all.C a0 w R :=
  ev_ok cxok (c := cx) Try.func69 (code := stopcockref10_all.code) (by kernel_rfl) [.tmp 2] (by kernel_rfl) 39 (by kernel_rfl) (stopcockref10_all.sk R) (args := [(Value.agg a0)]) (Nat.le_of_ble_eq_true rfl) (by kernel_rfl) (o := stopcockref10_all.owed R) (by kernel_rfl) (stopcockref10_all.pays R) h

/-! ### stopcock/stopcockref06.At: function 70 -/
def stopcockref06_At.main (a0_0 : Int) (a0_1 : Int) (a1r : Nat) (a1m : Nat) (w : World) (R : Ending → World → Prop) : Prop :=
  newP w #[(Value.int .i64 a0_0), (Value.int .i64 a0_1)] 31 fun b1 w1 =>
  ∃ (cs1 : Array Value), cs1.size = 2 ∧ CellsAt w1 (⟨b1, 0, none⟩ : Addr) cs1.toList ∧
  (callP Try.prog 68 #[(Value.agg cs1)] w1 (fun v1 w2 =>
      dB v1 fun b2 =>
      cond (!b2) (
        R (.returned (Value.tuple #[(Value.int .i64 0), (Value.int .i64 1)])) w2) (
        ∃ (x1 : Int), w2.cell? (⟨b1, 1, none⟩ : Addr) = some (Value.int .i64 x1) ∧
        (callP Try.prog 41 #[(Value.complex .f64 a1r a1m), (Value.int .i64 x1)] w2 (fun v2 w4 =>
            dT v2 fun vs1 =>
            optP (vs1[0]?) fun v3 =>
            dI .i64 v3 fun x2 =>
            optP (vs1[1]?) fun v4 =>
            dI .i64 v4 fun x3 =>
            cond (x3 != 0) (
              R (.returned (Value.tuple #[(Value.int .i64 0), (Value.int .i64 x3)])) w4) (
              ∃ (x4 : Int), w4.cell? (⟨b1, 0, none⟩ : Addr) = some (Value.int .i64 x4) ∧
              (∃ (x5 : Int), w4.cell? (⟨b1, 1, none⟩ : Addr) = some (Value.int .i64 x5) ∧
                (cond (decide (x2 ≥ (IntKind.i64.wrap (x4 * x5)))) (
                    R (.returned (Value.tuple #[(Value.int .i64 0), (Value.int .i64 5)])) w4) (
                    R (.returned (Value.tuple #[(Value.int .i64 (IntKind.i64.wrap (40 + x2))), (Value.int .i64 0)])) w4))))) (fun ch w5 => R (.panicked ch) w5)))) (fun ch w3 => R (.panicked ch) w3))
abbrev stopcockref06_At.C (a0_0 : Int) (a0_1 : Int) (a1r : Nat) (a1m : Nat) (w : World) (R : Ending → World → Prop) : Prop := Calls Try.prog 70 #[(Value.agg #[(Value.int .i64 a0_0), (Value.int .i64 a0_1)]), (Value.complex .f64 a1r a1m)] w R
noncomputable def stopcockref06_At.code : Code := (Try.f70.body).getD .skip
noncomputable def stopcockref06_At.sk (R : Ending → World → Prop) : Sk := .leaf
def stopcockref06_At.owed (R : Ending → World → Prop) : Prop :=
  True
theorem stopcockref06_At.pays (R : Ending → World → Prop) : stopcockref06_At.owed R := trivial
set_option maxRecDepth 100000 in
theorem stopcockref06_At.ok {a0_0 : Int} {a0_1 : Int} {a1r : Nat} {a1m : Nat} {w : World} {R : Ending → World → Prop} (h : stopcockref06_At.main a0_0 a0_1 a1r a1m w R) : stopcockref06_At.C a0_0 a0_1 a1r a1m w R :=
  ev_ok cxok (c := cx) Try.func70 (code := stopcockref06_At.code) (by kernel_rfl) [.tmp 4, .tmp 5] (by kernel_rfl) 30 (by kernel_rfl) (stopcockref06_At.sk R) (args := [(Value.agg #[(Value.int .i64 a0_0), (Value.int .i64 a0_1)]), (Value.complex .f64 a1r a1m)]) (Nat.le_of_ble_eq_true rfl) (by kernel_rfl) (o := stopcockref06_At.owed R) (by kernel_rfl) (stopcockref06_At.pays R) h

/-! ### stopcock/stopcockref01.Sort: function 71 -/
def stopcockref01_Sort.b2 (t4p : Option Addr) (t4n : Nat) (t4c : Nat) (t8p : Option Addr) (t8n : Nat) (t8c : Nat) (t9 : Int) (w : World) (R : Ending → World → Prop) (C2 : Option Addr → Nat → Nat → Option Addr → Nat → Nat → Int → World → Prop) : Prop :=
  cond (decide (t9 < ((t4n : Nat) : Int))) (
    chk (decide (0 ≤ t9)) (
      chk (decide (t9 < ((t4n : Nat) : Int))) (
        optP t4p fun d3 =>
        ∃ (b3 : Bool), w.cell? (d3.add (t9.toNat * 1)) = some (Value.bool b3) ∧
        (cond b3 (
            callP Try.prog 38 #[(Value.int .i64 (IntKind.i64.wrap (Int.tdiv t9 16))), (Value.int .i64 (Int.tmod t9 16))] w (fun v4 w6 =>
              dC v4 fun r2 m2 =>
              newP w6 #[(Value.complex .f64 r2 m2)] 55 fun b4 w8 =>
              appP w8 t8p t8n t8c 1 (CellsO w8 (some ⟨b4, 0, none⟩)) 55 1 16 #[(Value.complex .f64 0 0)] fun p1 c1 w9 =>
              C2 t4p t4n t4c p1 (t8n + 1) c1 (IntKind.i64.wrap (t9 + 1)) w9) (fun ch w7 => R (.panicked ch) w7)) (
            C2 t4p t4n t4c t8p t8n t8c (IntKind.i64.wrap (t9 + 1)) w))))) (
    R (.returned (Value.tuple #[(Value.slice t8p t8n t8c), (Value.int .i64 0)])) w)
def stopcockref01_Sort.l2 (t4p : Option Addr) (t4n : Nat) (t4c : Nat) (t8p : Option Addr) (t8n : Nat) (t8c : Nat) (t9 : Int) (w : World) (R : Ending → World → Prop) : Prop :=
  ∃ (I : Option Addr → Nat → Nat → Option Addr → Nat → Nat → Int → World → Prop) (m : Option Addr → Nat → Nat → Option Addr → Nat → Nat → Int → World → Nat), I t4p t4n t4c t8p t8n t8c t9 w ∧
  ∀ (t4p : Option Addr) (t4n : Nat) (t4c : Nat) (t8p : Option Addr) (t8n : Nat) (t8c : Nat) (t9 : Int) (w : World), I t4p t4n t4c t8p t8n t8c t9 w →
  stopcockref01_Sort.b2 t4p t4n t4c t8p t8n t8c t9 w R (fun t4p' t4n' t4c' t8p' t8n' t8c' t9' w' => I t4p' t4n' t4c' t8p' t8n' t8c' t9' w' ∧ m t4p' t4n' t4c' t8p' t8n' t8c' t9' w' < m t4p t4n t4c t8p t8n t8c t9 w)
def stopcockref01_Sort.k1 (t4p : Option Addr) (t4n : Nat) (t4c : Nat) (w : World) (R : Ending → World → Prop) : Prop :=
  newP w #[] 55 fun b2 w5 =>
  stopcockref01_Sort.l2 t4p t4n t4c (some ⟨b2, 0, none⟩) 0 0 0 w5 R
def stopcockref01_Sort.b1 (t0p : Option Addr) (t0n : Nat) (t0c : Nat) (t4p : Option Addr) (t4n : Nat) (t4c : Nat) (t5 : Int) (w : World) (R : Ending → World → Prop) (C1 : Option Addr → Nat → Nat → Option Addr → Nat → Nat → Int → World → Prop) : Prop :=
  cond (decide (t5 < ((t0n : Nat) : Int))) (
    chk (decide (0 ≤ t5)) (
      chk (decide (t5 < ((t0n : Nat) : Int))) (
        optP t0p fun d1 =>
        ∃ (r1 : Nat) (m1 : Nat), w.cell? (d1.add (t5.toNat * 1)) = some (Value.complex .f64 r1 m1) ∧
        (callP Try.prog 41 #[(Value.complex .f64 r1 m1), (Value.int .i64 16)] w (fun v1 w2 =>
            dT v1 fun vs1 =>
            optP (vs1[0]?) fun v2 =>
            dI .i64 v2 fun x1 =>
            optP (vs1[1]?) fun v3 =>
            dI .i64 v3 fun x2 =>
            cond (x2 != 0) (
              R (.returned (Value.tuple #[(Value.slice none 0 0), (Value.int .i64 2)])) w2) (
              chk (decide (0 ≤ x1)) (
                chk (decide (x1 < ((t4n : Nat) : Int))) (
                  optP t4p fun d2 =>
                  (w2.cell? (d2.add (x1.toNat * 1))).isSome = true ∧ w2.frozen? (d2.add (x1.toNat * 1)) = false ∧ ∀ w4, w4 = w2.setCell (d2.add (x1.toNat * 1)) (Value.bool true) →
                  (C1 t0p t0n t0c t4p t4n t4c (IntKind.i64.wrap (t5 + 1)) w4))))) (fun ch w3 => R (.panicked ch) w3))))) (
    stopcockref01_Sort.k1 t4p t4n t4c w R)
def stopcockref01_Sort.l1 (t0p : Option Addr) (t0n : Nat) (t0c : Nat) (t4p : Option Addr) (t4n : Nat) (t4c : Nat) (t5 : Int) (w : World) (R : Ending → World → Prop) : Prop :=
  ∃ (I : Option Addr → Nat → Nat → Option Addr → Nat → Nat → Int → World → Prop) (m : Option Addr → Nat → Nat → Option Addr → Nat → Nat → Int → World → Nat), I t0p t0n t0c t4p t4n t4c t5 w ∧
  ∀ (t0p : Option Addr) (t0n : Nat) (t0c : Nat) (t4p : Option Addr) (t4n : Nat) (t4c : Nat) (t5 : Int) (w : World), I t0p t0n t0c t4p t4n t4c t5 w →
  stopcockref01_Sort.b1 t0p t0n t0c t4p t4n t4c t5 w R (fun t0p' t0n' t0c' t4p' t4n' t4c' t5' w' => I t0p' t0n' t0c' t4p' t4n' t4c' t5' w' ∧ m t0p' t0n' t0c' t4p' t4n' t4c' t5' w' < m t0p t0n t0c t4p t4n t4c t5 w)
def stopcockref01_Sort.main (a0p : Option Addr) (a0n : Nat) (a0c : Nat) (w : World) (R : Ending → World → Prop) : Prop :=
  cond (decide (((a0n : Nat) : Int) > 4096)) (
    R (.returned (Value.tuple #[(Value.slice none 0 0), (Value.int .i64 1)])) w) (
    newP w (madeCells #[(Value.bool false)] (384 * 1)) 4 fun b1 w1 =>
    stopcockref01_Sort.l1 a0p a0n a0c (some ⟨b1, 0, none⟩) 384 384 0 w1 R)
abbrev stopcockref01_Sort.C (a0p : Option Addr) (a0n : Nat) (a0c : Nat) (w : World) (R : Ending → World → Prop) : Prop := Calls Try.prog 71 #[(Value.slice a0p a0n a0c)] w R
noncomputable def stopcockref01_Sort.code : Code := (Try.f71.body).getD .skip
noncomputable def stopcockref01_Sort.sk (R : Ending → World → Prop) : Sk := (.seq .leaf (.seq .leaf (.seq .leaf (.cut [(4, .slice)] (fun (t4p : Option Addr) (t4n : Nat) (t4c : Nat) (w : World) => stopcockref01_Sort.k1 t4p t4n t4c w R) (.seq .leaf (.block (.loop [(0, .slice), (4, .slice), (5, .int .i64)] (fun (t0p : Option Addr) (t0n : Nat) (t0c : Nat) (t4p : Option Addr) (t4n : Nat) (t4c : Nat) (t5 : Int) (w : World) => stopcockref01_Sort.l1 t0p t0n t0c t4p t4n t4c t5 w R) (fun (C1 : Option Addr → Nat → Nat → Option Addr → Nat → Nat → Int → World → Prop) => .leaf)))) (.seq .leaf (.seq (.seq .leaf (.block (.loop [(4, .slice), (8, .slice), (9, .int .i64)] (fun (t4p : Option Addr) (t4n : Nat) (t4c : Nat) (t8p : Option Addr) (t8n : Nat) (t8c : Nat) (t9 : Int) (w : World) => stopcockref01_Sort.l2 t4p t4n t4c t8p t8n t8c t9 w R) (fun (C2 : Option Addr → Nat → Nat → Option Addr → Nat → Nat → Int → World → Prop) => .leaf)))) .leaf))))))
def stopcockref01_Sort.owed (R : Ending → World → Prop) : Prop :=
  (∀ (t0p : Option Addr) (t0n : Nat) (t0c : Nat) (t4p : Option Addr) (t4n : Nat) (t4c : Nat) (t5 : Int) (w : World), stopcockref01_Sort.l1 t0p t0n t0c t4p t4n t4c t5 w R → stopcockref01_Sort.l1 t0p t0n t0c t4p t4n t4c t5 w R) ∧ (∀ (C1 : Option Addr → Nat → Nat → Option Addr → Nat → Nat → Int → World → Prop), True) ∧ (∀ (t4p : Option Addr) (t4n : Nat) (t4c : Nat) (w : World), stopcockref01_Sort.k1 t4p t4n t4c w R → stopcockref01_Sort.k1 t4p t4n t4c w R) ∧ (∀ (t4p : Option Addr) (t4n : Nat) (t4c : Nat) (t8p : Option Addr) (t8n : Nat) (t8c : Nat) (t9 : Int) (w : World), stopcockref01_Sort.l2 t4p t4n t4c t8p t8n t8c t9 w R → stopcockref01_Sort.l2 t4p t4n t4c t8p t8n t8c t9 w R) ∧ (∀ (C2 : Option Addr → Nat → Nat → Option Addr → Nat → Nat → Int → World → Prop), True) ∧ True
theorem stopcockref01_Sort.pays (R : Ending → World → Prop) : stopcockref01_Sort.owed R := ⟨(fun _ _ _ _ _ _ _ _ h => h), (fun _ => trivial), (fun _ _ _ _ h => h), (fun _ _ _ _ _ _ _ _ h => h), (fun _ => trivial), trivial⟩
set_option maxRecDepth 100000 in
theorem stopcockref01_Sort.ok {a0p : Option Addr} {a0n : Nat} {a0c : Nat} {w : World} {R : Ending → World → Prop} (h : stopcockref01_Sort.main a0p a0n a0c w R) : stopcockref01_Sort.C a0p a0n a0c w R :=
  ev_ok cxok (c := cx) Try.func71 (code := stopcockref01_Sort.code) (by kernel_rfl) [.tmp 2, .tmp 3] (by kernel_rfl) 53 (by kernel_rfl) (stopcockref01_Sort.sk R) (args := [(Value.slice a0p a0n a0c)]) (Nat.le_of_ble_eq_true rfl) (by kernel_rfl) (o := stopcockref01_Sort.owed R) (by kernel_rfl) (stopcockref01_Sort.pays R) h

end Go.Proofs.Ytokepljpieboiaa.G

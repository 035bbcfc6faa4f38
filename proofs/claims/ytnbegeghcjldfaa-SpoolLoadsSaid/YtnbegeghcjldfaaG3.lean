/- Statements of functions, and that their calls do what they say. Printed by wip/tool/dec.py. Conditions: none. -/
import Derived.Test.YtnbegeghcjldfaaG0
namespace Go.Proofs.Ytnbegeghcjldfaa.G
open Go.Dec
set_option linter.unusedVariables false

/-! ### stopcock/delta.Encode: function 43 -/
def delta_Encode.main (a0_0 : Int) (a0_1 : Int) (a0_2 : Int) (a0_3 : Int) (a0_4r : Nat) (a0_4m : Nat) (w : World) (R : Ending → World → Prop) : Prop :=
  newP w #[(Value.int .i64 a0_0), (Value.int .i64 a0_1), (Value.int .i64 a0_2), (Value.int .i64 a0_3), (Value.complex .f64 a0_4r a0_4m)] 52 fun b1 w1 =>
  ∃ (cs1 : Array Value), cs1.size = 5 ∧ CellsAt w1 (⟨b1, 0, none⟩ : Addr) cs1.toList ∧
  (callP Try.prog 27 #[(Value.agg cs1)] w1 (fun v1 w2 =>
      dI .i64 v1 fun x1 =>
      cond (x1 != 0) (
        R (.returned (Value.tuple #[(Value.slice none 0 0), (Value.int .i64 x1)])) w2) (
        ∃ (x2 : Int), w2.cell? (⟨b1, 0, none⟩ : Addr) = some (Value.int .i64 x2) ∧
        (∃ (x3 : Int), w2.cell? (⟨b1, 1, none⟩ : Addr) = some (Value.int .i64 x3) ∧
          (∃ (x4 : Int), w2.cell? (⟨b1, 2, none⟩ : Addr) = some (Value.int .i64 x4) ∧
            (∃ (x5 : Int), w2.cell? (⟨b1, 3, none⟩ : Addr) = some (Value.int .i64 x5) ∧
              (∃ (r1 : Nat) (m1 : Nat), w2.cell? (⟨b1, 4, none⟩ : Addr) = some (Value.complex .f64 r1 m1) ∧
                (optP ((FloatKind.f64.decode r1).toInt .zero) fun x6 =>
                  chk (decide (IntKind.u8.min ≤ x6)) (
                    chk (decide (x6 ≤ IntKind.u8.max)) (
                      ∃ (r2 : Nat) (m2 : Nat), w2.cell? (⟨b1, 4, none⟩ : Addr) = some (Value.complex .f64 r2 m2) ∧
                      (optP ((FloatKind.f64.decode m2).toInt .zero) fun x7 =>
                        chk (decide (IntKind.u8.min ≤ x7)) (
                          chk (decide (x7 ≤ IntKind.u8.max)) (
                          newP w2 #[(Value.int .u8 (IntKind.u8.wrap x2)), (Value.int .u8 (IntKind.u8.wrap (IntKind.i64.wrap (BitVec.ofInt IntKind.i64.bits (IntKind.i64.wrap (x3 * 2 ^ (min 4 IntKind.i64.bits))) ||| BitVec.ofInt IntKind.i64.bits x4).toNat))), (Value.int .u8 (IntKind.u8.wrap x5)), (Value.int .u8 x6), (Value.int .u8 x7)] 5 fun b2 w4 =>
                          R (.returned (Value.tuple #[(Value.slice (some ⟨b2, 0, none⟩) 5 5), (Value.int .i64 0)])) w4)))))))))))) (fun ch w3 => R (.panicked ch) w3))
abbrev delta_Encode.C (a0_0 : Int) (a0_1 : Int) (a0_2 : Int) (a0_3 : Int) (a0_4r : Nat) (a0_4m : Nat) (w : World) (R : Ending → World → Prop) : Prop := Calls Try.prog 43 #[(Value.agg #[(Value.int .i64 a0_0), (Value.int .i64 a0_1), (Value.int .i64 a0_2), (Value.int .i64 a0_3), (Value.complex .f64 a0_4r a0_4m)])] w R
noncomputable def delta_Encode.code : Code := (Try.f43.body).getD .skip
noncomputable def delta_Encode.sk (R : Ending → World → Prop) : Sk := .leaf
def delta_Encode.owed (R : Ending → World → Prop) : Prop :=
  True
theorem delta_Encode.pays (R : Ending → World → Prop) : delta_Encode.owed R := trivial
set_option maxRecDepth 100000 in
theorem delta_Encode.ok {a0_0 : Int} {a0_1 : Int} {a0_2 : Int} {a0_3 : Int} {a0_4r : Nat} {a0_4m : Nat} {w : World} {R : Ending → World → Prop} (h : delta_Encode.main a0_0 a0_1 a0_2 a0_3 a0_4r a0_4m w R) : delta_Encode.C a0_0 a0_1 a0_2 a0_3 a0_4r a0_4m w R :=
  ev_ok cxok (c := cx) Try.func43 (code := delta_Encode.code) (by kernel_rfl) [.tmp 2, .tmp 3] (by kernel_rfl) 32 (by kernel_rfl) (delta_Encode.sk R) (args := [(Value.agg #[(Value.int .i64 a0_0), (Value.int .i64 a0_1), (Value.int .i64 a0_2), (Value.int .i64 a0_3), (Value.complex .f64 a0_4r a0_4m)])]) (Nat.le_of_ble_eq_true rfl) (by kernel_rfl) (o := delta_Encode.owed R) (by kernel_rfl) (delta_Encode.pays R) h

/-! ### stopcock/seal.Close: function 44 -/
def seal_Close.main (a0p : Option Addr) (a0n : Nat) (a0c : Nat) (w : World) (R : Ending → World → Prop) : Prop :=
  cond (decide (((a0n : Nat) : Int) > 60)) (
    R (.returned (Value.tuple #[(Value.slice none 0 0), (Value.int .i64 6)])) w) (
    newP w (madeCells #[(Value.int .u8 0)] (64 * 1)) 5 fun b1 w1 =>
    copyP w1 (some ⟨b1, 0, none⟩) 60 a0p a0n 1 fun w2 =>
    callP Try.prog 51 #[(Value.slice (some ⟨b1, 0, none⟩) 60 64)] w2 (fun v1 w3 =>
      dI .u32 v1 fun x1 =>
      newP w3 #[(Value.int .u8 (IntKind.u8.wrap (Int.fdiv x1 (2 ^ (min 24 IntKind.u32.bits))))), (Value.int .u8 (IntKind.u8.wrap (Int.fdiv x1 (2 ^ (min 16 IntKind.u32.bits))))), (Value.int .u8 (IntKind.u8.wrap (Int.fdiv x1 (2 ^ (min 8 IntKind.u32.bits))))), (Value.int .u8 (IntKind.u8.wrap x1))] 5 fun b2 w5 =>
      appP w5 (some ⟨b1, 0, none⟩) 60 64 4 (CellsO w5 (some ⟨b2, 0, none⟩)) 5 1 1 #[(Value.int .u8 0)] fun p1 c1 w6 =>
      R (.returned (Value.tuple #[(Value.slice p1 (60 + 4) c1), (Value.int .i64 0)])) w6) (fun ch w4 => R (.panicked ch) w4))
abbrev seal_Close.C (a0p : Option Addr) (a0n : Nat) (a0c : Nat) (w : World) (R : Ending → World → Prop) : Prop := Calls Try.prog 44 #[(Value.slice a0p a0n a0c)] w R
noncomputable def seal_Close.code : Code := (Try.f44.body).getD .skip
noncomputable def seal_Close.sk (R : Ending → World → Prop) : Sk := .leaf
def seal_Close.owed (R : Ending → World → Prop) : Prop :=
  True
theorem seal_Close.pays (R : Ending → World → Prop) : seal_Close.owed R := trivial
set_option maxRecDepth 100000 in
theorem seal_Close.ok {a0p : Option Addr} {a0n : Nat} {a0c : Nat} {w : World} {R : Ending → World → Prop} (h : seal_Close.main a0p a0n a0c w R) : seal_Close.C a0p a0n a0c w R :=
  ev_ok cxok (c := cx) Try.func44 (code := seal_Close.code) (by kernel_rfl) [.tmp 2, .tmp 3] (by kernel_rfl) 29 (by kernel_rfl) (seal_Close.sk R) (args := [(Value.slice a0p a0n a0c)]) (Nat.le_of_ble_eq_true rfl) (by kernel_rfl) (o := seal_Close.owed R) (by kernel_rfl) (seal_Close.pays R) h

/-! ### stopcock/axis.Whole: function 48 -/
def axis_Whole.main (a0r : Nat) (a0m : Nat) (w : World) (R : Ending → World → Prop) : Prop :=
  callP Try.prog 52 #[(Value.float .f64 a0r), (Value.int .i64 24)] w (fun v1 w1 =>
    dB v1 fun b1 =>
    cond b1 (
      callP Try.prog 52 #[(Value.float .f64 a0m), (Value.int .i64 16)] w1 (fun v2 w3 =>
        dB v2 fun b2 =>
        R (.returned (Value.bool b2)) w3) (fun ch w4 => R (.panicked ch) w4)) (
      R (.returned (Value.bool false)) w1)) (fun ch w2 => R (.panicked ch) w2)
abbrev axis_Whole.C (a0r : Nat) (a0m : Nat) (w : World) (R : Ending → World → Prop) : Prop := Calls Try.prog 48 #[(Value.complex .f64 a0r a0m)] w R
noncomputable def axis_Whole.code : Code := (Try.f48.body).getD .skip
noncomputable def axis_Whole.sk (R : Ending → World → Prop) : Sk := .leaf
def axis_Whole.owed (R : Ending → World → Prop) : Prop :=
  True
theorem axis_Whole.pays (R : Ending → World → Prop) : axis_Whole.owed R := trivial
set_option maxRecDepth 100000 in
theorem axis_Whole.ok {a0r : Nat} {a0m : Nat} {w : World} {R : Ending → World → Prop} (h : axis_Whole.main a0r a0m w R) : axis_Whole.C a0r a0m w R :=
  ev_ok cxok (c := cx) Try.func48 (code := axis_Whole.code) (by kernel_rfl) [.tmp 2] (by kernel_rfl) 11 (by kernel_rfl) (axis_Whole.sk R) (args := [(Value.complex .f64 a0r a0m)]) (Nat.le_of_ble_eq_true rfl) (by kernel_rfl) (o := axis_Whole.owed R) (by kernel_rfl) (axis_Whole.pays R) h

/-! ### stopcock/cell.size: function 49 -/
def cell_size.main (a0 : Int) (w : World) (R : Ending → World → Prop) : Prop :=
  cond (decide (a0 ≥ 1)) (
    R (.returned (Value.bool (decide (a0 ≤ 4)))) w) (
    R (.returned (Value.bool false)) w)
abbrev cell_size.C (a0 : Int) (w : World) (R : Ending → World → Prop) : Prop := Calls Try.prog 49 #[(Value.int .i64 a0)] w R
noncomputable def cell_size.code : Code := (Try.f49.body).getD .skip
noncomputable def cell_size.sk (R : Ending → World → Prop) : Sk := .leaf
def cell_size.owed (R : Ending → World → Prop) : Prop :=
  True
theorem cell_size.pays (R : Ending → World → Prop) : cell_size.owed R := trivial
set_option maxRecDepth 100000 in
theorem cell_size.ok {a0 : Int} {w : World} {R : Ending → World → Prop} (h : cell_size.main a0 w R) : cell_size.C a0 w R :=
  ev_ok cxok (c := cx) Try.func49 (code := cell_size.code) (by kernel_rfl) [.tmp 2] (by kernel_rfl) 9 (by kernel_rfl) (cell_size.sk R) (args := [(Value.int .i64 a0)]) (Nat.le_of_ble_eq_true rfl) (by kernel_rfl) (o := cell_size.owed R) (by kernel_rfl) (cell_size.pays R) h

/-! ### stopcock/cell.put: function 50 -/
def cell_put.b1 (t0p : Option Addr) (t0n : Nat) (t0c : Nat) (t2 : Int) (t8 : Int) (w : World) (R : Ending → World → Prop) (C1 : Option Addr → Nat → Nat → Int → Int → World → Prop) : Prop :=
  cond (decide (t8 ≥ 0)) (
    chk (decide (0 ≤ (IntKind.i64.wrap (8 * t8)))) (
      newP w #[(Value.int .u8 (IntKind.u8.wrap (Int.fdiv t2 (2 ^ (min (IntKind.i64.wrap (8 * t8)).toNat IntKind.i64.bits)))))] 5 fun b1 w1 =>
      appP w1 t0p t0n t0c 1 (CellsO w1 (some ⟨b1, 0, none⟩)) 5 1 1 #[(Value.int .u8 0)] fun p1 c1 w2 =>
      C1 p1 (t0n + 1) c1 t2 (IntKind.i64.wrap (t8 - 1)) w2)) (
    R (.returned (Value.tuple #[(Value.slice t0p t0n t0c), (Value.int .i64 0)])) w)
def cell_put.l1 (t0p : Option Addr) (t0n : Nat) (t0c : Nat) (t2 : Int) (t8 : Int) (w : World) (R : Ending → World → Prop) : Prop :=
  ∃ (I : Option Addr → Nat → Nat → Int → Int → World → Prop) (m : Option Addr → Nat → Nat → Int → Int → World → Nat), I t0p t0n t0c t2 t8 w ∧
  ∀ (t0p : Option Addr) (t0n : Nat) (t0c : Nat) (t2 : Int) (t8 : Int) (w : World), I t0p t0n t0c t2 t8 w →
  cell_put.b1 t0p t0n t0c t2 t8 w R (fun t0p' t0n' t0c' t2' t8' w' => I t0p' t0n' t0c' t2' t8' w' ∧ m t0p' t0n' t0c' t2' t8' w' < m t0p t0n t0c t2 t8 w)
def cell_put.main (a0p : Option Addr) (a0n : Nat) (a0c : Nat) (a1 : Int) (a2 : Int) (w : World) (R : Ending → World → Prop) : Prop :=
  cond (decide (a2 < 0)) (
    R (.returned (Value.tuple #[(Value.slice none 0 0), (Value.int .i64 5)])) w) (
    chk (decide (0 ≤ (IntKind.i64.wrap (8 * a1)))) (
      cond ((Int.fdiv a2 (2 ^ (min (IntKind.i64.wrap (8 * a1)).toNat IntKind.i64.bits))) != 0) (
        R (.returned (Value.tuple #[(Value.slice none 0 0), (Value.int .i64 5)])) w) (
        cell_put.l1 a0p a0n a0c a2 (IntKind.i64.wrap (a1 - 1)) w R)))
abbrev cell_put.C (a0p : Option Addr) (a0n : Nat) (a0c : Nat) (a1 : Int) (a2 : Int) (w : World) (R : Ending → World → Prop) : Prop := Calls Try.prog 50 #[(Value.slice a0p a0n a0c), (Value.int .i64 a1), (Value.int .i64 a2)] w R
noncomputable def cell_put.code : Code := (Try.f50.body).getD .skip
noncomputable def cell_put.sk (R : Ending → World → Prop) : Sk := (.seq .leaf (.seq .leaf (.seq (.seq .leaf (.block (.loop [(0, .slice), (2, .int .i64), (8, .int .i64)] (fun (t0p : Option Addr) (t0n : Nat) (t0c : Nat) (t2 : Int) (t8 : Int) (w : World) => cell_put.l1 t0p t0n t0c t2 t8 w R) (fun (C1 : Option Addr → Nat → Nat → Int → Int → World → Prop) => .leaf)))) .leaf)))
def cell_put.owed (R : Ending → World → Prop) : Prop :=
  (∀ (t0p : Option Addr) (t0n : Nat) (t0c : Nat) (t2 : Int) (t8 : Int) (w : World), cell_put.l1 t0p t0n t0c t2 t8 w R → cell_put.l1 t0p t0n t0c t2 t8 w R) ∧ (∀ (C1 : Option Addr → Nat → Nat → Int → Int → World → Prop), True) ∧ True
theorem cell_put.pays (R : Ending → World → Prop) : cell_put.owed R := ⟨(fun _ _ _ _ _ _ h => h), (fun _ => trivial), trivial⟩
set_option maxRecDepth 100000 in
theorem cell_put.ok {a0p : Option Addr} {a0n : Nat} {a0c : Nat} {a1 : Int} {a2 : Int} {w : World} {R : Ending → World → Prop} (h : cell_put.main a0p a0n a0c a1 a2 w R) : cell_put.C a0p a0n a0c a1 a2 w R :=
  ev_ok cxok (c := cx) Try.func50 (code := cell_put.code) (by kernel_rfl) [.tmp 6, .tmp 7] (by kernel_rfl) 33 (by kernel_rfl) (cell_put.sk R) (args := [(Value.slice a0p a0n a0c), (Value.int .i64 a1), (Value.int .i64 a2)]) (Nat.le_of_ble_eq_true rfl) (by kernel_rfl) (o := cell_put.owed R) (by kernel_rfl) (cell_put.pays R) h

/-! ### stopcock/seal.Sum: function 51 -/
def seal_Sum.main (a0p : Option Addr) (a0n : Nat) (a0c : Nat) (w : World) (R : Ending → World → Prop) : Prop :=
  callP Try.prog 53 #[(Value.int .u32 0), (Value.slice a0p a0n a0c)] w (fun v1 w1 =>
    dI .u32 v1 fun x1 =>
    R (.returned (Value.int .u32 x1)) w1) (fun ch w2 => R (.panicked ch) w2)
abbrev seal_Sum.C (a0p : Option Addr) (a0n : Nat) (a0c : Nat) (w : World) (R : Ending → World → Prop) : Prop := Calls Try.prog 51 #[(Value.slice a0p a0n a0c)] w R
noncomputable def seal_Sum.code : Code := (Try.f51.body).getD .skip
noncomputable def seal_Sum.sk (R : Ending → World → Prop) : Sk := .leaf
def seal_Sum.owed (R : Ending → World → Prop) : Prop :=
  True
theorem seal_Sum.pays (R : Ending → World → Prop) : seal_Sum.owed R := trivial
set_option maxRecDepth 100000 in
theorem seal_Sum.ok {a0p : Option Addr} {a0n : Nat} {a0c : Nat} {w : World} {R : Ending → World → Prop} (h : seal_Sum.main a0p a0n a0c w R) : seal_Sum.C a0p a0n a0c w R :=
  ev_ok cxok (c := cx) Try.func51 (code := seal_Sum.code) (by kernel_rfl) [.tmp 2] (by kernel_rfl) 5 (by kernel_rfl) (seal_Sum.sk R) (args := [(Value.slice a0p a0n a0c)]) (Nat.le_of_ble_eq_true rfl) (by kernel_rfl) (o := seal_Sum.owed R) (by kernel_rfl) (seal_Sum.pays R) h

/-! ### stopcock/axis.within: function 52 -/
def axis_within.main (a0 : Nat) (a1 : Int) (w : World) (R : Ending → World → Prop) : Prop :=
  cond (fCmp .geq a0 0) (
    cond (fCmp .lss a0 (FloatKind.f64.nearest a1)) (
      optP ((FloatKind.f64.decode a0).toInt .zero) fun x1 =>
      chk (decide (IntKind.i64.min ≤ x1)) (
        chk (decide (x1 ≤ IntKind.i64.max)) (
          R (.returned (Value.bool (fCmp .eql (FloatKind.f64.nearest x1) a0))) w))) (
      R (.returned (Value.bool false)) w)) (
    R (.returned (Value.bool false)) w)
abbrev axis_within.C (a0 : Nat) (a1 : Int) (w : World) (R : Ending → World → Prop) : Prop := Calls Try.prog 52 #[(Value.float .f64 a0), (Value.int .i64 a1)] w R
noncomputable def axis_within.code : Code := (Try.f52.body).getD .skip
noncomputable def axis_within.sk (R : Ending → World → Prop) : Sk := .leaf
def axis_within.owed (R : Ending → World → Prop) : Prop :=
  True
theorem axis_within.pays (R : Ending → World → Prop) : axis_within.owed R := trivial
set_option maxRecDepth 100000 in
theorem axis_within.ok {a0 : Nat} {a1 : Int} {w : World} {R : Ending → World → Prop} (h : axis_within.main a0 a1 w R) : axis_within.C a0 a1 w R :=
  ev_ok cxok (c := cx) Try.func52 (code := axis_within.code) (by kernel_rfl) [.tmp 4] (by kernel_rfl) 20 (by kernel_rfl) (axis_within.sk R) (args := [(Value.float .f64 a0), (Value.int .i64 a1)]) (Nat.le_of_ble_eq_true rfl) (by kernel_rfl) (o := axis_within.owed R) (by kernel_rfl) (axis_within.pays R) h

/-! ### stopcock/seal.More: function 53 -/
def seal_More.b1 (t5 : Int) (t10p : Option Addr) (t10n : Nat) (t10c : Nat) (t11 : Int) (t12 : Int) (w : World) (R : Ending → World → Prop) (C1 : Int → Option Addr → Nat → Nat → Int → Int → World → Prop) : Prop :=
  cond (decide (t12 < t11)) (
    chk (decide (0 ≤ t12)) (
      chk (decide (t12 < ((t10n : Nat) : Int))) (
        optP t10p fun d1 =>
        ∃ (x1 : Int), w.cell? (d1.add (t12.toNat * 1)) = some (Value.int .u8 x1) ∧
        (callP Try.prog 54 #[(Value.int .u32 (IntKind.u32.wrap (BitVec.ofInt IntKind.u32.bits t5 ^^^ BitVec.ofInt IntKind.u32.bits (IntKind.u32.wrap ((IntKind.u32.wrap x1) * 2 ^ (min 24 IntKind.u32.bits)))).toNat))] w (fun v1 w1 =>
            dI .u32 v1 fun x2 =>
            C1 x2 t10p t10n t10c t11 (IntKind.i64.wrap (t12 + 1)) w1) (fun ch w2 => R (.panicked ch) w2))))) (
    R (.returned (Value.int .u32 (IntKind.u32.wrap (BitVec.ofInt IntKind.u32.bits (if IntKind.u32.signed then -1 else IntKind.u32.max) ^^^ BitVec.ofInt IntKind.u32.bits t5).toNat))) w)
def seal_More.l1 (t5 : Int) (t10p : Option Addr) (t10n : Nat) (t10c : Nat) (t11 : Int) (t12 : Int) (w : World) (R : Ending → World → Prop) : Prop :=
  ∃ (I : Int → Option Addr → Nat → Nat → Int → Int → World → Prop) (m : Int → Option Addr → Nat → Nat → Int → Int → World → Nat), I t5 t10p t10n t10c t11 t12 w ∧
  ∀ (t5 : Int) (t10p : Option Addr) (t10n : Nat) (t10c : Nat) (t11 : Int) (t12 : Int) (w : World), I t5 t10p t10n t10c t11 t12 w →
  seal_More.b1 t5 t10p t10n t10c t11 t12 w R (fun t5' t10p' t10n' t10c' t11' t12' w' => I t5' t10p' t10n' t10c' t11' t12' w' ∧ m t5' t10p' t10n' t10c' t11' t12' w' < m t5 t10p t10n t10c t11 t12 w)
def seal_More.main (a0 : Int) (a1p : Option Addr) (a1n : Nat) (a1c : Nat) (w : World) (R : Ending → World → Prop) : Prop :=
  seal_More.l1 (IntKind.u32.wrap (BitVec.ofInt IntKind.u32.bits (if IntKind.u32.signed then -1 else IntKind.u32.max) ^^^ BitVec.ofInt IntKind.u32.bits a0).toNat) a1p a1n a1c ((a1n : Nat) : Int) 0 w R
abbrev seal_More.C (a0 : Int) (a1p : Option Addr) (a1n : Nat) (a1c : Nat) (w : World) (R : Ending → World → Prop) : Prop := Calls Try.prog 53 #[(Value.int .u32 a0), (Value.slice a1p a1n a1c)] w R
noncomputable def seal_More.code : Code := (Try.f53.body).getD .skip
noncomputable def seal_More.sk (R : Ending → World → Prop) : Sk := (.seq .leaf (.seq .leaf (.seq (.seq .leaf (.block (.loop [(5, .int .u32), (10, .slice), (11, .int .i64), (12, .int .i64)] (fun (t5 : Int) (t10p : Option Addr) (t10n : Nat) (t10c : Nat) (t11 : Int) (t12 : Int) (w : World) => seal_More.l1 t5 t10p t10n t10c t11 t12 w R) (fun (C1 : Int → Option Addr → Nat → Nat → Int → Int → World → Prop) => .leaf)))) .leaf)))
def seal_More.owed (R : Ending → World → Prop) : Prop :=
  (∀ (t5 : Int) (t10p : Option Addr) (t10n : Nat) (t10c : Nat) (t11 : Int) (t12 : Int) (w : World), seal_More.l1 t5 t10p t10n t10c t11 t12 w R → seal_More.l1 t5 t10p t10n t10c t11 t12 w R) ∧ (∀ (C1 : Int → Option Addr → Nat → Nat → Int → Int → World → Prop), True) ∧ True
theorem seal_More.pays (R : Ending → World → Prop) : seal_More.owed R := ⟨(fun _ _ _ _ _ _ _ h => h), (fun _ => trivial), trivial⟩
set_option maxRecDepth 100000 in
theorem seal_More.ok {a0 : Int} {a1p : Option Addr} {a1n : Nat} {a1c : Nat} {w : World} {R : Ending → World → Prop} (h : seal_More.main a0 a1p a1n a1c w R) : seal_More.C a0 a1p a1n a1c w R :=
  ev_ok cxok (c := cx) Try.func53 (code := seal_More.code) (by kernel_rfl) [.tmp 4] (by kernel_rfl) 25 (by kernel_rfl) (seal_More.sk R) (args := [(Value.int .u32 a0), (Value.slice a1p a1n a1c)]) (Nat.le_of_ble_eq_true rfl) (by kernel_rfl) (o := seal_More.owed R) (by kernel_rfl) (seal_More.pays R) h

/-! ### stopcock/seal.step: function 54 -/
def seal_step.b1 (t0 : Int) (t4 : Int) (w : World) (R : Ending → World → Prop) (C1 : Int → Int → World → Prop) : Prop :=
  cond (decide (t4 < 8)) (
    C1 (IntKind.u32.wrap (BitVec.ofInt IntKind.u32.bits (IntKind.u32.wrap (t0 * 2 ^ (min 1 IntKind.u32.bits))) ^^^ BitVec.ofInt IntKind.u32.bits (IntKind.u32.wrap (79764919 * (Int.fdiv t0 (2 ^ (min 31 IntKind.u32.bits)))))).toNat) (IntKind.i64.wrap (t4 + 1)) w) (
    R (.returned (Value.int .u32 t0)) w)
def seal_step.l1 (t0 : Int) (t4 : Int) (w : World) (R : Ending → World → Prop) : Prop :=
  ∃ (I : Int → Int → World → Prop) (m : Int → Int → World → Nat), I t0 t4 w ∧
  ∀ (t0 : Int) (t4 : Int) (w : World), I t0 t4 w →
  seal_step.b1 t0 t4 w R (fun t0' t4' w' => I t0' t4' w' ∧ m t0' t4' w' < m t0 t4 w)
def seal_step.main (a0 : Int) (w : World) (R : Ending → World → Prop) : Prop :=
  seal_step.l1 a0 0 w R
abbrev seal_step.C (a0 : Int) (w : World) (R : Ending → World → Prop) : Prop := Calls Try.prog 54 #[(Value.int .u32 a0)] w R
noncomputable def seal_step.code : Code := (Try.f54.body).getD .skip
noncomputable def seal_step.sk (R : Ending → World → Prop) : Sk := (.seq .leaf (.seq (.seq .leaf (.block (.loop [(0, .int .u32), (4, .int .i64)] (fun (t0 : Int) (t4 : Int) (w : World) => seal_step.l1 t0 t4 w R) (fun (C1 : Int → Int → World → Prop) => .leaf)))) .leaf))
def seal_step.owed (R : Ending → World → Prop) : Prop :=
  (∀ (t0 : Int) (t4 : Int) (w : World), seal_step.l1 t0 t4 w R → seal_step.l1 t0 t4 w R) ∧ (∀ (C1 : Int → Int → World → Prop), True) ∧ True
theorem seal_step.pays (R : Ending → World → Prop) : seal_step.owed R := ⟨(fun _ _ _ h => h), (fun _ => trivial), trivial⟩
set_option maxRecDepth 100000 in
theorem seal_step.ok {a0 : Int} {w : World} {R : Ending → World → Prop} (h : seal_step.main a0 w R) : seal_step.C a0 w R :=
  ev_ok cxok (c := cx) Try.func54 (code := seal_step.code) (by kernel_rfl) [.tmp 2] (by kernel_rfl) 16 (by kernel_rfl) (seal_step.sk R) (args := [(Value.int .u32 a0)]) (Nat.le_of_ble_eq_true rfl) (by kernel_rfl) (o := seal_step.owed R) (by kernel_rfl) (seal_step.pays R) h

/-! ### stopcock/stopcocklaw15.SpoolLoads: function 3 -/
def stopcocklaw15_SpoolLoads.k3 (t8p : Option Addr) (t8n : Nat) (t8c : Nat) (t9 : Int) (t10 : Int) (t11p : Option Addr) (t11n : Nat) (t11c : Nat) (t12 : Int) (w : World) (R : Ending → World → Prop) : Prop :=
  cond (t10 == 0) (
    cond (t9 == t12) (
      callP Try.prog 12 #[(Value.slice t8p t8n t8c), (Value.slice t11p t11n t11c)] w (fun v17 w18 =>
        dB v17 fun b5 =>
        R (.returned (Value.bool b5)) w18) (fun ch w19 => R (.panicked ch) w19)) (
      R (.returned (Value.bool false)) w)) (
    R (.returned (Value.bool false)) w)
def stopcocklaw15_SpoolLoads.b2 (t1 : Int) (t5 : Option Addr) (t8p : Option Addr) (t8n : Nat) (t8c : Nat) (t9 : Int) (t10 : Int) (t11p : Option Addr) (t11n : Nat) (t11c : Nat) (t12 : Int) (w : World) (R : Ending → World → Prop) (C2 : Int → Option Addr → Option Addr → Nat → Nat → Int → Int → Option Addr → Nat → Nat → Int → World → Prop) : Prop :=
  cond (decide (t12 < 16)) (
    callP Try.prog 9 #[(Value.pointer t5), (Value.int .i64 (IntKind.i64.wrap (24 + t12)))] w (fun v10 w11 =>
      dT v10 fun vs3 =>
      optP (vs3[0]?) fun v11 =>
      dS v11 fun p5 n4 c4 =>
      optP (vs3[1]?) fun v12 =>
      dI .i64 v12 fun x5 =>
      cond (x5 != 0) (
        R (.returned (Value.bool false)) w11) (
        callP Try.prog 10 #[(Value.slice p5 n4 c4)] w11 (fun v13 w13 =>
          dT v13 fun vs4 =>
          optP (vs4[0]?) fun v14 =>
          dS v14 fun p6 n5 c5 =>
          optP (vs4[1]?) fun v15 =>
          dB v15 fun b4 =>
          cond (!b4) (
            stopcocklaw15_SpoolLoads.k3 t8p t8n t8c t9 t10 t11p t11n t11c t12 w13.drew R) (
            ∃ (ns1 : List Int), ns1.length = n4 ∧ CellsO w13.drew p5 (ns1.map (Value.int .u8)) ∧
            (callP Try.prog 11 #[(Value.int .i64 t1), (Value.int .i64 t12), (Value.slice p6 n5 c5)] w13.drew (fun v16 w15 =>
                dStr v16 fun s1 =>
                ∃ (ns2 : List Int), ns2.length = n4 ∧ CellsO w15 p5 (ns2.map (Value.int .u8)) ∧
                ((Value.string (strOf ns2)) = (Value.string (strOf ns1)) ∧
                  (cond (!(s1.toList == (strOf ns1).toList)) (
                      stopcocklaw15_SpoolLoads.k3 t8p t8n t8c t9 t10 t11p t11n t11c t12 w15 R) (
                      appP w15 t11p t11n t11c n5 (CellsO w15 p6) 52 5 48 #[(Value.int .i64 0), (Value.int .i64 0), (Value.int .i64 0), (Value.int .i64 0), (Value.complex .f64 0 0)] fun p7 c6 w17 =>
                      C2 t1 t5 t8p t8n t8c t9 t10 p7 (t11n + n5) c6 (IntKind.i64.wrap (t12 + 1)) w17)))) (fun ch w16 => R (.panicked ch) w16)))) (fun ch w14 => R (.panicked ch) w14))) (fun ch w12 => R (.panicked ch) w12)) (
    stopcocklaw15_SpoolLoads.k3 t8p t8n t8c t9 t10 t11p t11n t11c t12 w R)
def stopcocklaw15_SpoolLoads.l2 (t1 : Int) (t5 : Option Addr) (t8p : Option Addr) (t8n : Nat) (t8c : Nat) (t9 : Int) (t10 : Int) (t11p : Option Addr) (t11n : Nat) (t11c : Nat) (t12 : Int) (w : World) (R : Ending → World → Prop) : Prop :=
  ∃ (I : Int → Option Addr → Option Addr → Nat → Nat → Int → Int → Option Addr → Nat → Nat → Int → World → Prop) (m : Int → Option Addr → Option Addr → Nat → Nat → Int → Int → Option Addr → Nat → Nat → Int → World → Nat), I t1 t5 t8p t8n t8c t9 t10 t11p t11n t11c t12 w ∧
  ∀ (t1 : Int) (t5 : Option Addr) (t8p : Option Addr) (t8n : Nat) (t8c : Nat) (t9 : Int) (t10 : Int) (t11p : Option Addr) (t11n : Nat) (t11c : Nat) (t12 : Int) (w : World), I t1 t5 t8p t8n t8c t9 t10 t11p t11n t11c t12 w →
  stopcocklaw15_SpoolLoads.b2 t1 t5 t8p t8n t8c t9 t10 t11p t11n t11c t12 w R (fun t1' t5' t8p' t8n' t8c' t9' t10' t11p' t11n' t11c' t12' w' => I t1' t5' t8p' t8n' t8c' t9' t10' t11p' t11n' t11c' t12' w' ∧ m t1' t5' t8p' t8n' t8c' t9' t10' t11p' t11n' t11c' t12' w' < m t1 t5 t8p t8n t8c t9 t10 t11p t11n t11c t12 w)
def stopcocklaw15_SpoolLoads.k2 (t1 : Int) (t5 : Option Addr) (t8p : Option Addr) (t8n : Nat) (t8c : Nat) (t9 : Int) (t10 : Int) (t68 : Bool) (w : World) (R : Ending → World → Prop) : Prop :=
  cond t68 (
    cond (t10 == 1) (
      cond (((t8n : Nat) : Int) == 0) (
        R (.returned (Value.bool (t9 == 0))) w) (
        R (.returned (Value.bool false)) w)) (
      R (.returned (Value.bool false)) w)) (
    newP w #[] 52 fun b3 w10 =>
    stopcocklaw15_SpoolLoads.l2 t1 t5 t8p t8n t8c t9 t10 (some ⟨b3, 0, none⟩) 0 0 0 w10 R)
def stopcocklaw15_SpoolLoads.k1 (t1 : Int) (t5 : Option Addr) (w : World) (R : Ending → World → Prop) : Prop :=
  callP Try.prog 8 #[(Value.pointer t5), (Value.int .i64 t1)] w (fun v6 w8 =>
    dT v6 fun vs2 =>
    optP (vs2[0]?) fun v7 =>
    dS v7 fun p4 n3 c3 =>
    optP (vs2[1]?) fun v8 =>
    dI .i64 v8 fun x3 =>
    optP (vs2[2]?) fun v9 =>
    dI .i64 v9 fun x4 =>
    cond (decide (t1 < 1)) (
      stopcocklaw15_SpoolLoads.k2 t1 t5 p4 n3 c3 x3 x4 true w8 R) (
      stopcocklaw15_SpoolLoads.k2 t1 t5 p4 n3 c3 x3 x4 (decide (t1 > 1073741824)) w8 R)) (fun ch w9 => R (.panicked ch) w9)
def stopcocklaw15_SpoolLoads.b1 (t0p : Option Addr) (t0n : Nat) (t0c : Nat) (t1 : Int) (t5 : Option Addr) (t7 : Int) (w : World) (R : Ending → World → Prop) (C1 : Option Addr → Nat → Nat → Int → Option Addr → Int → World → Prop) : Prop :=
  cond (decide (t7 < ((t0n : Nat) : Int))) (
    cond (decide (t7 < 16)) (
      chk (decide (0 ≤ t7)) (
        chk (decide (t7 < ((t0n : Nat) : Int))) (
          optP t0p fun d1 =>
          ∃ (p2 : Option Addr) (n1 : Nat) (c1 : Nat), w.cell? (d1.add (t7.toNat * 1)) = some (Value.slice p2 n1 c1) ∧
          (cond (((n1 : Nat) : Int) == 64) (
              chk (decide (0 ≤ t7)) (
                chk (decide (t7 < ((t0n : Nat) : Int))) (
                  optP t0p fun d2 =>
                  ∃ (p3 : Option Addr) (n2 : Nat) (c2 : Nat), w.cell? (d2.add (t7.toNat * 1)) = some (Value.slice p3 n2 c2) ∧
                  (newP w #[(Value.int .i64 (IntKind.i64.wrap (24 + t7))), (Value.slice p3 n2 c2)] 31 fun b2 w5 =>
                    callP Try.prog 7 #[(Value.pointer t5), (Value.slice (some ⟨b2, 0, none⟩) 1 1)] w5 (fun v5 w6 =>
                      dI .i64 v5 fun x2 =>
                      cond (x2 != 0) (
                        R (.returned (Value.bool false)) w6) (
                        C1 t0p t0n t0c t1 t5 (IntKind.i64.wrap (t7 + 1)) w6)) (fun ch w7 => R (.panicked ch) w7))))) (
              C1 t0p t0n t0c t1 t5 (IntKind.i64.wrap (t7 + 1)) w))))) (
      stopcocklaw15_SpoolLoads.k1 t1 t5 w R)) (
    stopcocklaw15_SpoolLoads.k1 t1 t5 w R)
def stopcocklaw15_SpoolLoads.l1 (t0p : Option Addr) (t0n : Nat) (t0c : Nat) (t1 : Int) (t5 : Option Addr) (t7 : Int) (w : World) (R : Ending → World → Prop) : Prop :=
  ∃ (I : Option Addr → Nat → Nat → Int → Option Addr → Int → World → Prop) (m : Option Addr → Nat → Nat → Int → Option Addr → Int → World → Nat), I t0p t0n t0c t1 t5 t7 w ∧
  ∀ (t0p : Option Addr) (t0n : Nat) (t0c : Nat) (t1 : Int) (t5 : Option Addr) (t7 : Int) (w : World), I t0p t0n t0c t1 t5 t7 w →
  stopcocklaw15_SpoolLoads.b1 t0p t0n t0c t1 t5 t7 w R (fun t0p' t0n' t0c' t1' t5' t7' w' => I t0p' t0n' t0c' t1' t5' t7' w' ∧ m t0p' t0n' t0c' t1' t5' t7' w' < m t0p t0n t0c t1 t5 t7 w)
def stopcocklaw15_SpoolLoads.main (a0p : Option Addr) (a0n : Nat) (a0c : Nat) (a1 : Int) (w : World) (R : Ending → World → Prop) : Prop :=
  callP Try.prog 5 #[(Value.int .i64 60)] w (fun v1 w1 =>
    dT v1 fun vs1 =>
    optP (vs1[0]?) fun v2 =>
    dP v2 fun p1 =>
    optP (vs1[1]?) fun v3 =>
    dI .i64 v3 fun x1 =>
    callP Try.prog 6 #[] w1 (fun v4 w3 =>
      dB v4 fun b1 =>
      cond (!b1) (
        R (.returned (Value.bool false)) w3) (
        cond (x1 != 0) (
          R (.returned (Value.bool false)) w3) (
          stopcocklaw15_SpoolLoads.l1 a0p a0n a0c a1 p1 0 w3 R))) (fun ch w4 => R (.panicked ch) w4)) (fun ch w2 => R (.panicked ch) w2)
abbrev stopcocklaw15_SpoolLoads.C (a0p : Option Addr) (a0n : Nat) (a0c : Nat) (a1 : Int) (w : World) (R : Ending → World → Prop) : Prop := Calls Try.prog 3 #[(Value.slice a0p a0n a0c), (Value.int .i64 a1)] w R
noncomputable def stopcocklaw15_SpoolLoads.code : Code := (Try.f3.body).getD .skip
noncomputable def stopcocklaw15_SpoolLoads.sk (R : Ending → World → Prop) : Sk := (.seq .leaf (.seq .leaf (.seq .leaf (.cut [(1, .int .i64), (5, .ptr)] (fun (t1 : Int) (t5 : Option Addr) (w : World) => stopcocklaw15_SpoolLoads.k1 t1 t5 w R) (.seq .leaf (.block (.loop [(0, .slice), (1, .int .i64), (5, .ptr), (7, .int .i64)] (fun (t0p : Option Addr) (t0n : Nat) (t0c : Nat) (t1 : Int) (t5 : Option Addr) (t7 : Int) (w : World) => stopcocklaw15_SpoolLoads.l1 t0p t0n t0c t1 t5 t7 w R) (fun (C1 : Option Addr → Nat → Nat → Int → Option Addr → Int → World → Prop) => .leaf)))) (.seq .leaf (.seq (.cut [(1, .int .i64), (5, .ptr), (8, .slice), (9, .int .i64), (10, .int .i64), (68, .bool)] (fun (t1 : Int) (t5 : Option Addr) (t8p : Option Addr) (t8n : Nat) (t8c : Nat) (t9 : Int) (t10 : Int) (t68 : Bool) (w : World) => stopcocklaw15_SpoolLoads.k2 t1 t5 t8p t8n t8c t9 t10 t68 w R) .leaf .leaf) (.seq .leaf (.seq .leaf (.cut [(8, .slice), (9, .int .i64), (10, .int .i64), (11, .slice), (12, .int .i64)] (fun (t8p : Option Addr) (t8n : Nat) (t8c : Nat) (t9 : Int) (t10 : Int) (t11p : Option Addr) (t11n : Nat) (t11c : Nat) (t12 : Int) (w : World) => stopcocklaw15_SpoolLoads.k3 t8p t8n t8c t9 t10 t11p t11n t11c t12 w R) (.block (.loop [(1, .int .i64), (5, .ptr), (8, .slice), (9, .int .i64), (10, .int .i64), (11, .slice), (12, .int .i64)] (fun (t1 : Int) (t5 : Option Addr) (t8p : Option Addr) (t8n : Nat) (t8c : Nat) (t9 : Int) (t10 : Int) (t11p : Option Addr) (t11n : Nat) (t11c : Nat) (t12 : Int) (w : World) => stopcocklaw15_SpoolLoads.l2 t1 t5 t8p t8n t8c t9 t10 t11p t11n t11c t12 w R) (fun (C2 : Int → Option Addr → Option Addr → Nat → Nat → Int → Int → Option Addr → Nat → Nat → Int → World → Prop) => .leaf))) .leaf)))))))))
def stopcocklaw15_SpoolLoads.owed (R : Ending → World → Prop) : Prop :=
  (∀ (t0p : Option Addr) (t0n : Nat) (t0c : Nat) (t1 : Int) (t5 : Option Addr) (t7 : Int) (w : World), stopcocklaw15_SpoolLoads.l1 t0p t0n t0c t1 t5 t7 w R → stopcocklaw15_SpoolLoads.l1 t0p t0n t0c t1 t5 t7 w R) ∧ (∀ (C1 : Option Addr → Nat → Nat → Int → Option Addr → Int → World → Prop), True) ∧ (∀ (t1 : Int) (t5 : Option Addr) (w : World), stopcocklaw15_SpoolLoads.k1 t1 t5 w R → stopcocklaw15_SpoolLoads.k1 t1 t5 w R) ∧ (∀ (t1 : Int) (t5 : Option Addr) (t8p : Option Addr) (t8n : Nat) (t8c : Nat) (t9 : Int) (t10 : Int) (t68 : Bool) (w : World), stopcocklaw15_SpoolLoads.k2 t1 t5 t8p t8n t8c t9 t10 t68 w R → stopcocklaw15_SpoolLoads.k2 t1 t5 t8p t8n t8c t9 t10 t68 w R) ∧ (∀ (t1 : Int) (t5 : Option Addr) (t8p : Option Addr) (t8n : Nat) (t8c : Nat) (t9 : Int) (t10 : Int) (t11p : Option Addr) (t11n : Nat) (t11c : Nat) (t12 : Int) (w : World), stopcocklaw15_SpoolLoads.l2 t1 t5 t8p t8n t8c t9 t10 t11p t11n t11c t12 w R → stopcocklaw15_SpoolLoads.l2 t1 t5 t8p t8n t8c t9 t10 t11p t11n t11c t12 w R) ∧ (∀ (C2 : Int → Option Addr → Option Addr → Nat → Nat → Int → Int → Option Addr → Nat → Nat → Int → World → Prop), True) ∧ (∀ (t8p : Option Addr) (t8n : Nat) (t8c : Nat) (t9 : Int) (t10 : Int) (t11p : Option Addr) (t11n : Nat) (t11c : Nat) (t12 : Int) (w : World), stopcocklaw15_SpoolLoads.k3 t8p t8n t8c t9 t10 t11p t11n t11c t12 w R → stopcocklaw15_SpoolLoads.k3 t8p t8n t8c t9 t10 t11p t11n t11c t12 w R) ∧ True
theorem stopcocklaw15_SpoolLoads.pays (R : Ending → World → Prop) : stopcocklaw15_SpoolLoads.owed R := ⟨(fun _ _ _ _ _ _ _ h => h), (fun _ => trivial), (fun _ _ _ h => h), (fun _ _ _ _ _ _ _ _ _ h => h), (fun _ _ _ _ _ _ _ _ _ _ _ _ h => h), (fun _ => trivial), (fun _ _ _ _ _ _ _ _ _ _ h => h), trivial⟩
set_option maxRecDepth 100000 in
theorem stopcocklaw15_SpoolLoads.ok {a0p : Option Addr} {a0n : Nat} {a0c : Nat} {a1 : Int} {w : World} {R : Ending → World → Prop} (h : stopcocklaw15_SpoolLoads.main a0p a0n a0c a1 w R) : stopcocklaw15_SpoolLoads.C a0p a0n a0c a1 w R :=
  ev_ok cxok (c := cx) Try.func3 (code := stopcocklaw15_SpoolLoads.code) (by kernel_rfl) [.tmp 4] (by kernel_rfl) 125 (by kernel_rfl) (stopcocklaw15_SpoolLoads.sk R) (args := [(Value.slice a0p a0n a0c), (Value.int .i64 a1)]) (Nat.le_of_ble_eq_true rfl) (by kernel_rfl) (o := stopcocklaw15_SpoolLoads.owed R) (by kernel_rfl) (stopcocklaw15_SpoolLoads.pays R) h

/-! ### stopcock/stopcocklaw15.read: function 10 -/
def stopcocklaw15_read.b1 (t4p : Option Addr) (t4n : Nat) (t4c : Nat) (t6p : Option Addr) (t6n : Nat) (t6c : Nat) (t7 : Int) (w : World) (R : Ending → World → Prop) (C1 : Option Addr → Nat → Nat → Option Addr → Nat → Nat → Int → World → Prop) : Prop :=
  chk (decide (5 < ((t4n : Nat) : Int))) (
    optP t4p fun d3 =>
    ∃ (x4 : Int), w.cell? (d3.add 5) = some (Value.int .u8 x4) ∧
    (cond (decide (t7 < (IntKind.i64.wrap x4))) (
        chk (decide (0 ≤ (IntKind.i64.wrap (11 + (IntKind.i64.wrap (5 * t7)))))) (
          chk (decide ((IntKind.i64.wrap (11 + (IntKind.i64.wrap (5 * t7)))) ≤ ((t4c : Nat) : Int))) (
            chk (decide (0 ≤ (IntKind.i64.wrap (6 + (IntKind.i64.wrap (5 * t7)))))) (
              chk (decide ((IntKind.i64.wrap (6 + (IntKind.i64.wrap (5 * t7)))) ≤ (((IntKind.i64.wrap (11 + (IntKind.i64.wrap (5 * t7)))).toNat : Nat) : Int))) (
                callP Try.prog 23 #[(Value.slice (slA t4p t4c ((IntKind.i64.wrap (6 + (IntKind.i64.wrap (5 * t7)))).toNat) 1) ((IntKind.i64.wrap (11 + (IntKind.i64.wrap (5 * t7)))).toNat - (IntKind.i64.wrap (6 + (IntKind.i64.wrap (5 * t7)))).toNat) (t4c - (IntKind.i64.wrap (6 + (IntKind.i64.wrap (5 * t7)))).toNat))] w (fun v4 w4 =>
                  dT v4 fun vs2 =>
                  optP (vs2[0]?) fun v5 =>
                  dA v5 fun cs1 =>
                  optP (vs2[1]?) fun v6 =>
                  dI .i64 v6 fun x5 =>
                  newP w4 #[(Value.int .i64 0), (Value.int .i64 0), (Value.int .i64 0), (Value.int .i64 0), (Value.complex .f64 0 0)] 52 fun b2 w6 =>
                  chk (decide (cs1.size = 5)) (
                    Wr w6 (⟨b2, 0, none⟩ : Addr) cs1.toList ∧ ∀ w7, w7 = w6.setCells (⟨b2, 0, none⟩ : Addr).block (⟨b2, 0, none⟩ : Addr).off cs1.toList →
                    (cond (x5 != 0) (
                        R (.returned (Value.tuple #[(Value.slice none 0 0), (Value.bool false)])) w7) (
                        ∃ (cs2 : Array Value), cs2.size = 5 ∧ CellsAt w7 (⟨b2, 0, none⟩ : Addr) cs2.toList ∧
                        (optP (Instr.fill (fun i => some (i * 5, 5)) (madeCells #[(Value.int .i64 0), (Value.int .i64 0), (Value.int .i64 0), (Value.int .i64 0), (Value.complex .f64 0 0)] (1 * 5)) [(0, (Value.agg cs2))]) fun cs3 =>
                          newP w7 cs3 52 fun b3 w8 =>
                          appP w8 t6p t6n t6c 1 (CellsO w8 (some ⟨b3, 0, none⟩)) 52 5 48 #[(Value.int .i64 0), (Value.int .i64 0), (Value.int .i64 0), (Value.int .i64 0), (Value.complex .f64 0 0)] fun p2 c2 w9 =>
                          C1 t4p t4n t4c p2 (t6n + 1) c2 (IntKind.i64.wrap (t7 + 1)) w9))))) (fun ch w5 => R (.panicked ch) w5)))))) (
        R (.returned (Value.tuple #[(Value.slice t6p t6n t6c), (Value.bool true)])) w)))
def stopcocklaw15_read.l1 (t4p : Option Addr) (t4n : Nat) (t4c : Nat) (t6p : Option Addr) (t6n : Nat) (t6c : Nat) (t7 : Int) (w : World) (R : Ending → World → Prop) : Prop :=
  ∃ (I : Option Addr → Nat → Nat → Option Addr → Nat → Nat → Int → World → Prop) (m : Option Addr → Nat → Nat → Option Addr → Nat → Nat → Int → World → Nat), I t4p t4n t4c t6p t6n t6c t7 w ∧
  ∀ (t4p : Option Addr) (t4n : Nat) (t4c : Nat) (t6p : Option Addr) (t6n : Nat) (t6c : Nat) (t7 : Int) (w : World), I t4p t4n t4c t6p t6n t6c t7 w →
  stopcocklaw15_read.b1 t4p t4n t4c t6p t6n t6c t7 w R (fun t4p' t4n' t4c' t6p' t6n' t6c' t7' w' => I t4p' t4n' t4c' t6p' t6n' t6c' t7' w' ∧ m t4p' t4n' t4c' t6p' t6n' t6c' t7' w' < m t4p t4n t4c t6p t6n t6c t7 w)
def stopcocklaw15_read.main (a0p : Option Addr) (a0n : Nat) (a0c : Nat) (w : World) (R : Ending → World → Prop) : Prop :=
  callP Try.prog 22 #[(Value.slice a0p a0n a0c)] w (fun v1 w1 =>
    dT v1 fun vs1 =>
    optP (vs1[0]?) fun v2 =>
    dS v2 fun p1 n1 c1 =>
    optP (vs1[1]?) fun v3 =>
    dI .i64 v3 fun x1 =>
    cond (x1 != 0) (
      R (.returned (Value.tuple #[(Value.slice none 0 0), (Value.bool false)])) w1) (
      chk (decide (5 < ((n1 : Nat) : Int))) (
        optP p1 fun d1 =>
        ∃ (x2 : Int), w1.cell? (d1.add 5) = some (Value.int .u8 x2) ∧
        (cond (decide (x2 < 1)) (
            R (.returned (Value.tuple #[(Value.slice none 0 0), (Value.bool false)])) w1) (
            chk (decide (5 < ((n1 : Nat) : Int))) (
              optP p1 fun d2 =>
              ∃ (x3 : Int), w1.cell? (d2.add 5) = some (Value.int .u8 x3) ∧
              (cond (decide (x3 > 6)) (
                  R (.returned (Value.tuple #[(Value.slice none 0 0), (Value.bool false)])) w1) (
                  newP w1 #[] 52 fun b1 w3 =>
                  stopcocklaw15_read.l1 p1 n1 c1 (some ⟨b1, 0, none⟩) 0 0 0 w3 R)))))))) (fun ch w2 => R (.panicked ch) w2)
abbrev stopcocklaw15_read.C (a0p : Option Addr) (a0n : Nat) (a0c : Nat) (w : World) (R : Ending → World → Prop) : Prop := Calls Try.prog 10 #[(Value.slice a0p a0n a0c)] w R
noncomputable def stopcocklaw15_read.code : Code := (Try.f10.body).getD .skip
noncomputable def stopcocklaw15_read.sk (R : Ending → World → Prop) : Sk := (.seq .leaf (.seq .leaf (.seq .leaf (.seq .leaf (.seq (.seq .leaf (.block (.loop [(4, .slice), (6, .slice), (7, .int .i64)] (fun (t4p : Option Addr) (t4n : Nat) (t4c : Nat) (t6p : Option Addr) (t6n : Nat) (t6c : Nat) (t7 : Int) (w : World) => stopcocklaw15_read.l1 t4p t4n t4c t6p t6n t6c t7 w R) (fun (C1 : Option Addr → Nat → Nat → Option Addr → Nat → Nat → Int → World → Prop) => .leaf)))) .leaf)))))
def stopcocklaw15_read.owed (R : Ending → World → Prop) : Prop :=
  (∀ (t4p : Option Addr) (t4n : Nat) (t4c : Nat) (t6p : Option Addr) (t6n : Nat) (t6c : Nat) (t7 : Int) (w : World), stopcocklaw15_read.l1 t4p t4n t4c t6p t6n t6c t7 w R → stopcocklaw15_read.l1 t4p t4n t4c t6p t6n t6c t7 w R) ∧ (∀ (C1 : Option Addr → Nat → Nat → Option Addr → Nat → Nat → Int → World → Prop), True) ∧ True
theorem stopcocklaw15_read.pays (R : Ending → World → Prop) : stopcocklaw15_read.owed R := ⟨(fun _ _ _ _ _ _ _ _ h => h), (fun _ => trivial), trivial⟩
set_option maxRecDepth 100000 in
theorem stopcocklaw15_read.ok {a0p : Option Addr} {a0n : Nat} {a0c : Nat} {w : World} {R : Ending → World → Prop} (h : stopcocklaw15_read.main a0p a0n a0c w R) : stopcocklaw15_read.C a0p a0n a0c w R :=
  ev_ok cxok (c := cx) Try.func10 (code := stopcocklaw15_read.code) (by kernel_rfl) [.tmp 2, .tmp 3] (by kernel_rfl) 57 (by kernel_rfl) (stopcocklaw15_read.sk R) (args := [(Value.slice a0p a0n a0c)]) (Nat.le_of_ble_eq_true rfl) (by kernel_rfl) (o := stopcocklaw15_read.owed R) (by kernel_rfl) (stopcocklaw15_read.pays R) h

/-! ### stopcock/stopcocklaw15.sector: function 11 -/
def stopcocklaw15_sector.k1 (t7p : Option Addr) (t7n : Nat) (t7c : Nat) (w : World) (R : Ending → World → Prop) : Prop :=
  callP Try.prog 26 #[(Value.slice t7p t7n t7c)] w (fun v7 w8 =>
    dT v7 fun vs3 =>
    optP (vs3[0]?) fun v8 =>
    dS v8 fun p5 n3 c5 =>
    optP (vs3[1]?) fun v9 =>
    dI .i64 v9 fun x3 =>
    ∃ (ns1 : List Int), ns1.length = n3 ∧ CellsO w8 p5 (ns1.map (Value.int .u8)) ∧
    (R (.returned (Value.string (strOf ns1))) w8)) (fun ch w9 => R (.panicked ch) w9)
def stopcocklaw15_sector.b1 (t2p : Option Addr) (t2n : Nat) (t2c : Nat) (t7p : Option Addr) (t7n : Nat) (t7c : Nat) (t9 : Int) (w : World) (R : Ending → World → Prop) (C1 : Option Addr → Nat → Nat → Option Addr → Nat → Nat → Int → World → Prop) : Prop :=
  cond (decide (t9 < ((t2n : Nat) : Int))) (
    chk (decide (0 ≤ t9)) (
      chk (decide (t9 < ((t2n : Nat) : Int))) (
        optP t2p fun d1 =>
        ∃ (cs1 : Array Value), cs1.size = 5 ∧ CellsAt w (d1.add (t9.toNat * 5)) cs1.toList ∧
        (callP Try.prog 25 #[(Value.agg cs1)] w (fun v4 w5 =>
            dT v4 fun vs2 =>
            optP (vs2[0]?) fun v5 =>
            dS v5 fun p3 n2 c3 =>
            optP (vs2[1]?) fun v6 =>
            dI .i64 v6 fun x2 =>
            appP w5 t7p t7n t7c n2 (CellsO w5 p3) 5 1 1 #[(Value.int .u8 0)] fun p4 c4 w7 =>
            C1 t2p t2n t2c p4 (t7n + n2) c4 (IntKind.i64.wrap (t9 + 1)) w7) (fun ch w6 => R (.panicked ch) w6))))) (
    stopcocklaw15_sector.k1 t7p t7n t7c w R)
def stopcocklaw15_sector.l1 (t2p : Option Addr) (t2n : Nat) (t2c : Nat) (t7p : Option Addr) (t7n : Nat) (t7c : Nat) (t9 : Int) (w : World) (R : Ending → World → Prop) : Prop :=
  ∃ (I : Option Addr → Nat → Nat → Option Addr → Nat → Nat → Int → World → Prop) (m : Option Addr → Nat → Nat → Option Addr → Nat → Nat → Int → World → Nat), I t2p t2n t2c t7p t7n t7c t9 w ∧
  ∀ (t2p : Option Addr) (t2n : Nat) (t2c : Nat) (t7p : Option Addr) (t7n : Nat) (t7c : Nat) (t9 : Int) (w : World), I t2p t2n t2c t7p t7n t7c t9 w →
  stopcocklaw15_sector.b1 t2p t2n t2c t7p t7n t7c t9 w R (fun t2p' t2n' t2c' t7p' t7n' t7c' t9' w' => I t2p' t2n' t2c' t7p' t7n' t7c' t9' w' ∧ m t2p' t2n' t2c' t7p' t7n' t7c' t9' w' < m t2p t2n t2c t7p t7n t7c t9 w)
def stopcocklaw15_sector.main (a0 : Int) (a1 : Int) (a2p : Option Addr) (a2n : Nat) (a2c : Nat) (w : World) (R : Ending → World → Prop) : Prop :=
  callP Try.prog 24 #[(Value.slice none 0 0), (Value.int .i64 4), (Value.int .i64 a0)] w (fun v1 w1 =>
    dT v1 fun vs1 =>
    optP (vs1[0]?) fun v2 =>
    dS v2 fun p1 n1 c1 =>
    optP (vs1[1]?) fun v3 =>
    dI .i64 v3 fun x1 =>
    newP w1 #[(Value.int .u8 (IntKind.u8.wrap a1)), (Value.int .u8 (IntKind.u8.wrap ((a2n : Nat) : Int)))] 5 fun b1 w3 =>
    appP w3 p1 n1 c1 2 (CellsO w3 (some ⟨b1, 0, none⟩)) 5 1 1 #[(Value.int .u8 0)] fun p2 c2 w4 =>
    stopcocklaw15_sector.l1 a2p a2n a2c p2 (n1 + 2) c2 0 w4 R) (fun ch w2 => R (.panicked ch) w2)
abbrev stopcocklaw15_sector.C (a0 : Int) (a1 : Int) (a2p : Option Addr) (a2n : Nat) (a2c : Nat) (w : World) (R : Ending → World → Prop) : Prop := Calls Try.prog 11 #[(Value.int .i64 a0), (Value.int .i64 a1), (Value.slice a2p a2n a2c)] w R
noncomputable def stopcocklaw15_sector.code : Code := (Try.f11.body).getD .skip
noncomputable def stopcocklaw15_sector.sk (R : Ending → World → Prop) : Sk := (.seq .leaf (.seq .leaf (.seq .leaf (.cut [(7, .slice)] (fun (t7p : Option Addr) (t7n : Nat) (t7c : Nat) (w : World) => stopcocklaw15_sector.k1 t7p t7n t7c w R) (.seq .leaf (.block (.loop [(2, .slice), (7, .slice), (9, .int .i64)] (fun (t2p : Option Addr) (t2n : Nat) (t2c : Nat) (t7p : Option Addr) (t7n : Nat) (t7c : Nat) (t9 : Int) (w : World) => stopcocklaw15_sector.l1 t2p t2n t2c t7p t7n t7c t9 w R) (fun (C1 : Option Addr → Nat → Nat → Option Addr → Nat → Nat → Int → World → Prop) => .leaf)))) .leaf))))
def stopcocklaw15_sector.owed (R : Ending → World → Prop) : Prop :=
  (∀ (t2p : Option Addr) (t2n : Nat) (t2c : Nat) (t7p : Option Addr) (t7n : Nat) (t7c : Nat) (t9 : Int) (w : World), stopcocklaw15_sector.l1 t2p t2n t2c t7p t7n t7c t9 w R → stopcocklaw15_sector.l1 t2p t2n t2c t7p t7n t7c t9 w R) ∧ (∀ (C1 : Option Addr → Nat → Nat → Option Addr → Nat → Nat → Int → World → Prop), True) ∧ (∀ (t7p : Option Addr) (t7n : Nat) (t7c : Nat) (w : World), stopcocklaw15_sector.k1 t7p t7n t7c w R → stopcocklaw15_sector.k1 t7p t7n t7c w R) ∧ True
theorem stopcocklaw15_sector.pays (R : Ending → World → Prop) : stopcocklaw15_sector.owed R := ⟨(fun _ _ _ _ _ _ _ _ h => h), (fun _ => trivial), (fun _ _ _ _ h => h), trivial⟩
set_option maxRecDepth 100000 in
theorem stopcocklaw15_sector.ok {a0 : Int} {a1 : Int} {a2p : Option Addr} {a2n : Nat} {a2c : Nat} {w : World} {R : Ending → World → Prop} (h : stopcocklaw15_sector.main a0 a1 a2p a2n a2c w R) : stopcocklaw15_sector.C a0 a1 a2p a2n a2c w R :=
  ev_ok cxok (c := cx) Try.func11 (code := stopcocklaw15_sector.code) (by kernel_rfl) [.tmp 6] (by kernel_rfl) 51 (by kernel_rfl) (stopcocklaw15_sector.sk R) (args := [(Value.int .i64 a0), (Value.int .i64 a1), (Value.slice a2p a2n a2c)]) (Nat.le_of_ble_eq_true rfl) (by kernel_rfl) (o := stopcocklaw15_sector.owed R) (by kernel_rfl) (stopcocklaw15_sector.pays R) h

end Go.Proofs.Ytnbegeghcjldfaa.G

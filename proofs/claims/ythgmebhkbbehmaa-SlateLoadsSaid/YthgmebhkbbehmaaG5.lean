/- Statements of functions, and that their calls do what they say. Printed by wip/tool/dec.py. Conditions: none. -/
import Derived.Test.YthgmebhkbbehmaaG0
namespace Go.Proofs.Ythgmebhkbbehmaa.G
open Go.Dec
set_option linter.unusedVariables false

/-! ### stopcock/plat.At: function 86 -/
def plat_At.main (a0_0 : Int) (a0_1 : Int) (a1r : Nat) (a1m : Nat) (w : World) (R : Ending → World → Prop) : Prop :=
  newP w #[(Value.int .i64 a0_0), (Value.int .i64 a0_1)] 34 fun b1 w1 =>
  ∃ (cs1 : Array Value), cs1.size = 2 ∧ CellsAt w1 (⟨b1, 0, none⟩ : Addr) cs1.toList ∧
  (callP Try.prog 82 #[(Value.agg cs1)] w1 (fun v1 w2 =>
      dI .i64 v1 fun x1 =>
      cond (x1 != 0) (
        R (.returned (Value.tuple #[(Value.int .i64 0), (Value.int .i64 x1)])) w2) (
        ∃ (x2 : Int), w2.cell? (⟨b1, 1, none⟩ : Addr) = some (Value.int .i64 x2) ∧
        (callP Try.prog 69 #[(Value.complex .f64 a1r a1m), (Value.int .i64 x2)] w2 (fun v2 w4 =>
            dT v2 fun vs1 =>
            optP (vs1[0]?) fun v3 =>
            dI .i64 v3 fun x3 =>
            optP (vs1[1]?) fun v4 =>
            dI .i64 v4 fun x4 =>
            cond (x4 != 0) (
              R (.returned (Value.tuple #[(Value.int .i64 0), (Value.int .i64 x4)])) w4) (
              ∃ (x5 : Int), w4.cell? (⟨b1, 0, none⟩ : Addr) = some (Value.int .i64 x5) ∧
              (∃ (x6 : Int), w4.cell? (⟨b1, 1, none⟩ : Addr) = some (Value.int .i64 x6) ∧
                (cond (decide (x3 ≥ (IntKind.i64.wrap (x5 * x6)))) (
                    R (.returned (Value.tuple #[(Value.int .i64 0), (Value.int .i64 5)])) w4) (
                    R (.returned (Value.tuple #[(Value.int .i64 (IntKind.i64.wrap (40 + x3))), (Value.int .i64 0)])) w4))))) (fun ch w5 => R (.panicked ch) w5)))) (fun ch w3 => R (.panicked ch) w3))
abbrev plat_At.C (a0_0 : Int) (a0_1 : Int) (a1r : Nat) (a1m : Nat) (w : World) (R : Ending → World → Prop) : Prop := Calls Try.prog 86 #[(Value.agg #[(Value.int .i64 a0_0), (Value.int .i64 a0_1)]), (Value.complex .f64 a1r a1m)] w R
noncomputable def plat_At.code : Code := (Try.f86.body).getD .skip
noncomputable def plat_At.sk (R : Ending → World → Prop) : Sk := .leaf
def plat_At.owed (R : Ending → World → Prop) : Prop :=
  True
theorem plat_At.pays (R : Ending → World → Prop) : plat_At.owed R := trivial
set_option maxRecDepth 100000 in
theorem plat_At.ok {a0_0 : Int} {a0_1 : Int} {a1r : Nat} {a1m : Nat} {w : World} {R : Ending → World → Prop} (h : plat_At.main a0_0 a0_1 a1r a1m w R) : plat_At.C a0_0 a0_1 a1r a1m w R :=
  ev_ok cxok (c := cx) Try.func86 (code := plat_At.code) (by kernel_rfl) [.tmp 4, .tmp 5] (by kernel_rfl) 35 (by kernel_rfl) (plat_At.sk R) (args := [(Value.agg #[(Value.int .i64 a0_0), (Value.int .i64 a0_1)]), (Value.complex .f64 a1r a1m)]) (Nat.le_of_ble_eq_true rfl) (by kernel_rfl) (o := plat_At.owed R) (by kernel_rfl) (plat_At.pays R) h

/-! ### stopcock/axis.Parts: function 87 -/
def axis_Parts.main (a0r : Nat) (a0m : Nat) (w : World) (R : Ending → World → Prop) : Prop :=
  callP Try.prog 92 #[(Value.complex .f64 a0r a0m)] w (fun v1 w1 =>
    dB v1 fun b1 =>
    cond (!b1) (
      R (.returned (Value.tuple #[(Value.int .i64 0), (Value.int .i64 0), (Value.int .i64 2)])) w1) (
      optP ((FloatKind.f64.decode a0r).toInt .zero) fun x1 =>
      chk (decide (IntKind.i64.min ≤ x1)) (
        chk (decide (x1 ≤ IntKind.i64.max)) (
          optP ((FloatKind.f64.decode a0m).toInt .zero) fun x2 =>
          chk (decide (IntKind.i64.min ≤ x2)) (
            chk (decide (x2 ≤ IntKind.i64.max)) (
              R (.returned (Value.tuple #[(Value.int .i64 x1), (Value.int .i64 x2), (Value.int .i64 0)])) w1)))))) (fun ch w2 => R (.panicked ch) w2)
abbrev axis_Parts.C (a0r : Nat) (a0m : Nat) (w : World) (R : Ending → World → Prop) : Prop := Calls Try.prog 87 #[(Value.complex .f64 a0r a0m)] w R
noncomputable def axis_Parts.code : Code := (Try.f87.body).getD .skip
noncomputable def axis_Parts.sk (R : Ending → World → Prop) : Sk := .leaf
def axis_Parts.owed (R : Ending → World → Prop) : Prop :=
  True
theorem axis_Parts.pays (R : Ending → World → Prop) : axis_Parts.owed R := trivial
set_option maxRecDepth 100000 in
theorem axis_Parts.ok {a0r : Nat} {a0m : Nat} {w : World} {R : Ending → World → Prop} (h : axis_Parts.main a0r a0m w R) : axis_Parts.C a0r a0m w R :=
  ev_ok cxok (c := cx) Try.func87 (code := axis_Parts.code) (by kernel_rfl) [.tmp 2, .tmp 3, .tmp 4] (by kernel_rfl) 14 (by kernel_rfl) (axis_Parts.sk R) (args := [(Value.complex .f64 a0r a0m)]) (Nat.le_of_ble_eq_true rfl) (by kernel_rfl) (o := axis_Parts.owed R) (by kernel_rfl) (axis_Parts.pays R) h

/-! ### stopcock/cell.put: function 88 -/
def cell_put.b1 (t0p : Option Addr) (t0n : Nat) (t0c : Nat) (t2 : Int) (t8 : Int) (w : World) (R : Ending → World → Prop) (C1 : Option Addr → Nat → Nat → Int → Int → World → Prop) : Prop :=
  cond (decide (t8 ≥ 0)) (
    chk (decide (0 ≤ (IntKind.i64.wrap (8 * t8)))) (
      newP w #[(Value.int .u8 (IntKind.u8.wrap (Int.fdiv t2 (2 ^ (min (IntKind.i64.wrap (8 * t8)).toNat IntKind.i64.bits)))))] 5 fun b1 w1 =>
      appP w1 t0p t0n t0c 1 (CellsO w1 (some ⟨b1, 0, none⟩)) 5 1 1 #[(Value.int .u8 0)] fun p1 c1 w2 =>
      C1 p1 (t0n + 1) c1 t2 (IntKind.i64.wrap (t8 - 1)) w2)) (
    R (.returned (Value.tuple #[(Value.slice t0p t0n t0c), (Value.int .i64 0)])) w)
def cell_put.l1 (t0p : Option Addr) (t0n : Nat) (t0c : Nat) (t2 : Int) (t8 : Int) (w : World) (R : Ending → World → Prop) : Prop :=
  ∃ (I : Option Addr → Nat → Nat → Int → Int → World → Prop) (m : Option Addr → Nat → Nat → Int → Int → World → Nat), I t0p t0n t0c t2 t8 w ∧
  ∀ (t0p : Option Addr) (t0n : Nat) (t0c : Nat) (t2 : Int) (t8 : Int) (w : World), I t0p t0n t0c t2 t8 w →
  cell_put.b1 t0p t0n t0c t2 t8 w R (fun t0p' t0n' t0c' t2' t8' w' => I t0p' t0n' t0c' t2' t8' w' ∧ m t0p' t0n' t0c' t2' t8' w' < m t0p t0n t0c t2 t8 w)
def cell_put.main (a0p : Option Addr) (a0n : Nat) (a0c : Nat) (a1 : Int) (a2 : Int) (w : World) (R : Ending → World → Prop) : Prop :=
  cond (decide (a2 < 0)) (
    R (.returned (Value.tuple #[(Value.slice none 0 0), (Value.int .i64 5)])) w) (
    chk (decide (0 ≤ (IntKind.i64.wrap (8 * a1)))) (
      cond ((Int.fdiv a2 (2 ^ (min (IntKind.i64.wrap (8 * a1)).toNat IntKind.i64.bits))) != 0) (
        R (.returned (Value.tuple #[(Value.slice none 0 0), (Value.int .i64 5)])) w) (
        cell_put.l1 a0p a0n a0c a2 (IntKind.i64.wrap (a1 - 1)) w R)))
abbrev cell_put.C (a0p : Option Addr) (a0n : Nat) (a0c : Nat) (a1 : Int) (a2 : Int) (w : World) (R : Ending → World → Prop) : Prop := Calls Try.prog 88 #[(Value.slice a0p a0n a0c), (Value.int .i64 a1), (Value.int .i64 a2)] w R
noncomputable def cell_put.code : Code := (Try.f88.body).getD .skip
noncomputable def cell_put.sk (R : Ending → World → Prop) : Sk := (.seq .leaf (.seq .leaf (.seq (.seq .leaf (.block (.loop [(0, .slice), (2, .int .i64), (8, .int .i64)] (fun (t0p : Option Addr) (t0n : Nat) (t0c : Nat) (t2 : Int) (t8 : Int) (w : World) => cell_put.l1 t0p t0n t0c t2 t8 w R) (fun (C1 : Option Addr → Nat → Nat → Int → Int → World → Prop) => .leaf)))) .leaf)))
def cell_put.owed (R : Ending → World → Prop) : Prop :=
  (∀ (t0p : Option Addr) (t0n : Nat) (t0c : Nat) (t2 : Int) (t8 : Int) (w : World), cell_put.l1 t0p t0n t0c t2 t8 w R → cell_put.l1 t0p t0n t0c t2 t8 w R) ∧ (∀ (C1 : Option Addr → Nat → Nat → Int → Int → World → Prop), True) ∧ True
theorem cell_put.pays (R : Ending → World → Prop) : cell_put.owed R := ⟨(fun _ _ _ _ _ _ h => h), (fun _ => trivial), trivial⟩
set_option maxRecDepth 100000 in
theorem cell_put.ok {a0p : Option Addr} {a0n : Nat} {a0c : Nat} {a1 : Int} {a2 : Int} {w : World} {R : Ending → World → Prop} (h : cell_put.main a0p a0n a0c a1 a2 w R) : cell_put.C a0p a0n a0c a1 a2 w R :=
  ev_ok cxok (c := cx) Try.func88 (code := cell_put.code) (by kernel_rfl) [.tmp 6, .tmp 7] (by kernel_rfl) 33 (by kernel_rfl) (cell_put.sk R) (args := [(Value.slice a0p a0n a0c), (Value.int .i64 a1), (Value.int .i64 a2)]) (Nat.le_of_ble_eq_true rfl) (by kernel_rfl) (o := cell_put.owed R) (by kernel_rfl) (cell_put.pays R) h

/-! ### stopcock/seal.step: function 89 -/
def seal_step.b1 (t0 : Int) (t4 : Int) (w : World) (R : Ending → World → Prop) (C1 : Int → Int → World → Prop) : Prop :=
  cond (decide (t4 < 8)) (
    C1 (IntKind.u32.wrap (BitVec.ofInt IntKind.u32.bits (IntKind.u32.wrap (t0 * 2 ^ (min 1 IntKind.u32.bits))) ^^^ BitVec.ofInt IntKind.u32.bits (IntKind.u32.wrap (79764919 * (Int.fdiv t0 (2 ^ (min 31 IntKind.u32.bits)))))).toNat) (IntKind.i64.wrap (t4 + 1)) w) (
    R (.returned (Value.int .u32 t0)) w)
def seal_step.l1 (t0 : Int) (t4 : Int) (w : World) (R : Ending → World → Prop) : Prop :=
  ∃ (I : Int → Int → World → Prop) (m : Int → Int → World → Nat), I t0 t4 w ∧
  ∀ (t0 : Int) (t4 : Int) (w : World), I t0 t4 w →
  seal_step.b1 t0 t4 w R (fun t0' t4' w' => I t0' t4' w' ∧ m t0' t4' w' < m t0 t4 w)
def seal_step.main (a0 : Int) (w : World) (R : Ending → World → Prop) : Prop :=
  seal_step.l1 a0 0 w R
abbrev seal_step.C (a0 : Int) (w : World) (R : Ending → World → Prop) : Prop := Calls Try.prog 89 #[(Value.int .u32 a0)] w R
noncomputable def seal_step.code : Code := (Try.f89.body).getD .skip
noncomputable def seal_step.sk (R : Ending → World → Prop) : Sk := (.seq .leaf (.seq (.seq .leaf (.block (.loop [(0, .int .u32), (4, .int .i64)] (fun (t0 : Int) (t4 : Int) (w : World) => seal_step.l1 t0 t4 w R) (fun (C1 : Int → Int → World → Prop) => .leaf)))) .leaf))
def seal_step.owed (R : Ending → World → Prop) : Prop :=
  (∀ (t0 : Int) (t4 : Int) (w : World), seal_step.l1 t0 t4 w R → seal_step.l1 t0 t4 w R) ∧ (∀ (C1 : Int → Int → World → Prop), True) ∧ True
theorem seal_step.pays (R : Ending → World → Prop) : seal_step.owed R := ⟨(fun _ _ _ h => h), (fun _ => trivial), trivial⟩
set_option maxRecDepth 100000 in
theorem seal_step.ok {a0 : Int} {w : World} {R : Ending → World → Prop} (h : seal_step.main a0 w R) : seal_step.C a0 w R :=
  ev_ok cxok (c := cx) Try.func89 (code := seal_step.code) (by kernel_rfl) [.tmp 2] (by kernel_rfl) 16 (by kernel_rfl) (seal_step.sk R) (args := [(Value.int .u32 a0)]) (Nat.le_of_ble_eq_true rfl) (by kernel_rfl) (o := seal_step.owed R) (by kernel_rfl) (seal_step.pays R) h

/-! ### stopcock/delta.in: function 90 -/
def delta_in.main (a0 : Int) (a1 : Int) (a2 : Int) (w : World) (R : Ending → World → Prop) : Prop :=
  cond (decide (a0 ≥ a1)) (
    R (.returned (Value.bool (decide (a0 < a2)))) w) (
    R (.returned (Value.bool false)) w)
abbrev delta_in.C (a0 : Int) (a1 : Int) (a2 : Int) (w : World) (R : Ending → World → Prop) : Prop := Calls Try.prog 90 #[(Value.int .i64 a0), (Value.int .i64 a1), (Value.int .i64 a2)] w R
noncomputable def delta_in.code : Code := (Try.f90.body).getD .skip
noncomputable def delta_in.sk (R : Ending → World → Prop) : Sk := .leaf
def delta_in.owed (R : Ending → World → Prop) : Prop :=
  True
theorem delta_in.pays (R : Ending → World → Prop) : delta_in.owed R := trivial
set_option maxRecDepth 100000 in
theorem delta_in.ok {a0 : Int} {a1 : Int} {a2 : Int} {w : World} {R : Ending → World → Prop} (h : delta_in.main a0 a1 a2 w R) : delta_in.C a0 a1 a2 w R :=
  ev_ok cxok (c := cx) Try.func90 (code := delta_in.code) (by kernel_rfl) [.tmp 6] (by kernel_rfl) 15 (by kernel_rfl) (delta_in.sk R) (args := [(Value.int .i64 a0), (Value.int .i64 a1), (Value.int .i64 a2)]) (Nat.le_of_ble_eq_true rfl) (by kernel_rfl) (o := delta_in.owed R) (by kernel_rfl) (delta_in.pays R) h

/-! ### stopcock/delta.Sound$1: function 91 -/
def delta_Sound_1.main (a0r : Nat) (a0m : Nat) (w : World) (R : Ending → World → Prop) : Prop :=
  cond (!(fCmp .eql a0r 13830554455654793216 && fCmp .eql a0m 0)) (
    callP Try.prog 92 #[(Value.complex .f64 a0r a0m)] w (fun v1 w1 =>
      dB v1 fun b1 =>
      R (.returned (Value.bool (!b1))) w1) (fun ch w2 => R (.panicked ch) w2)) (
    R (.returned (Value.bool false)) w)
abbrev delta_Sound_1.C (a0r : Nat) (a0m : Nat) (w : World) (R : Ending → World → Prop) : Prop := Calls Try.prog 91 #[(Value.complex .f64 a0r a0m)] w R
noncomputable def delta_Sound_1.code : Code := (Try.f91.body).getD .skip
noncomputable def delta_Sound_1.sk (R : Ending → World → Prop) : Sk := .leaf
def delta_Sound_1.owed (R : Ending → World → Prop) : Prop :=
  True
theorem delta_Sound_1.pays (R : Ending → World → Prop) : delta_Sound_1.owed R := trivial
set_option maxRecDepth 100000 in
theorem delta_Sound_1.ok {a0r : Nat} {a0m : Nat} {w : World} {R : Ending → World → Prop} (h : delta_Sound_1.main a0r a0m w R) : delta_Sound_1.C a0r a0m w R :=
  ev_ok cxok (c := cx) Try.func91 (code := delta_Sound_1.code) (by kernel_rfl) [.tmp 2] (by kernel_rfl) 10 (by kernel_rfl) (delta_Sound_1.sk R) (args := [(Value.complex .f64 a0r a0m)]) (Nat.le_of_ble_eq_true rfl) (by kernel_rfl) (o := delta_Sound_1.owed R) (by kernel_rfl) (delta_Sound_1.pays R) h

/-! ### stopcock/axis.Whole: function 92 -/
def axis_Whole.main (a0r : Nat) (a0m : Nat) (w : World) (R : Ending → World → Prop) : Prop :=
  callP Try.prog 94 #[(Value.float .f64 a0r), (Value.int .i64 24)] w (fun v1 w1 =>
    dB v1 fun b1 =>
    cond b1 (
      callP Try.prog 94 #[(Value.float .f64 a0m), (Value.int .i64 16)] w1 (fun v2 w3 =>
        dB v2 fun b2 =>
        R (.returned (Value.bool b2)) w3) (fun ch w4 => R (.panicked ch) w4)) (
      R (.returned (Value.bool false)) w1)) (fun ch w2 => R (.panicked ch) w2)
abbrev axis_Whole.C (a0r : Nat) (a0m : Nat) (w : World) (R : Ending → World → Prop) : Prop := Calls Try.prog 92 #[(Value.complex .f64 a0r a0m)] w R
noncomputable def axis_Whole.code : Code := (Try.f92.body).getD .skip
noncomputable def axis_Whole.sk (R : Ending → World → Prop) : Sk := .leaf
def axis_Whole.owed (R : Ending → World → Prop) : Prop :=
  True
theorem axis_Whole.pays (R : Ending → World → Prop) : axis_Whole.owed R := trivial
set_option maxRecDepth 100000 in
theorem axis_Whole.ok {a0r : Nat} {a0m : Nat} {w : World} {R : Ending → World → Prop} (h : axis_Whole.main a0r a0m w R) : axis_Whole.C a0r a0m w R :=
  ev_ok cxok (c := cx) Try.func92 (code := axis_Whole.code) (by kernel_rfl) [.tmp 2] (by kernel_rfl) 11 (by kernel_rfl) (axis_Whole.sk R) (args := [(Value.complex .f64 a0r a0m)]) (Nat.le_of_ble_eq_true rfl) (by kernel_rfl) (o := axis_Whole.owed R) (by kernel_rfl) (axis_Whole.pays R) h

/-! ### stopcock/axis.within: function 94 -/
def axis_within.main (a0 : Nat) (a1 : Int) (w : World) (R : Ending → World → Prop) : Prop :=
  cond (fCmp .geq a0 0) (
    cond (fCmp .lss a0 (FloatKind.f64.nearest a1)) (
      optP ((FloatKind.f64.decode a0).toInt .zero) fun x1 =>
      chk (decide (IntKind.i64.min ≤ x1)) (
        chk (decide (x1 ≤ IntKind.i64.max)) (
          R (.returned (Value.bool (fCmp .eql (FloatKind.f64.nearest x1) a0))) w))) (
      R (.returned (Value.bool false)) w)) (
    R (.returned (Value.bool false)) w)
abbrev axis_within.C (a0 : Nat) (a1 : Int) (w : World) (R : Ending → World → Prop) : Prop := Calls Try.prog 94 #[(Value.float .f64 a0), (Value.int .i64 a1)] w R
noncomputable def axis_within.code : Code := (Try.f94.body).getD .skip
noncomputable def axis_within.sk (R : Ending → World → Prop) : Sk := .leaf
def axis_within.owed (R : Ending → World → Prop) : Prop :=
  True
theorem axis_within.pays (R : Ending → World → Prop) : axis_within.owed R := trivial
set_option maxRecDepth 100000 in
theorem axis_within.ok {a0 : Nat} {a1 : Int} {w : World} {R : Ending → World → Prop} (h : axis_within.main a0 a1 w R) : axis_within.C a0 a1 w R :=
  ev_ok cxok (c := cx) Try.func94 (code := axis_within.code) (by kernel_rfl) [.tmp 4] (by kernel_rfl) 20 (by kernel_rfl) (axis_within.sk R) (args := [(Value.float .f64 a0), (Value.int .i64 a1)]) (Nat.le_of_ble_eq_true rfl) (by kernel_rfl) (o := axis_within.owed R) (by kernel_rfl) (axis_within.pays R) h

/-! ### slices.EqualFunc[[][]byte,[][]byte,[]byte,[]byte]: function 37 -/
def slices_EqualFunc_byte_byte_byte_byte_f38.b1 (t1p : Option Addr) (t1n : Nat) (t1c : Nat) (t15p : Option Addr) (t15n : Nat) (t15c : Nat) (t16 : Int) (t17 : Int) (w : World) (R : Ending → World → Prop) (C1 : Option Addr → Nat → Nat → Option Addr → Nat → Nat → Int → Int → World → Prop) : Prop :=
  cond (decide (t17 < t16)) (
    chk (decide (0 ≤ t17)) (
      chk (decide (t17 < ((t15n : Nat) : Int))) (
        optP t15p fun d1 =>
        ∃ (p1 : Option Addr) (n1 : Nat) (c1 : Nat), w.cell? (d1.add (t17.toNat * 1)) = some (Value.slice p1 n1 c1) ∧
        (chk (decide (0 ≤ t17)) (
            chk (decide (t17 < ((t1n : Nat) : Int))) (
              optP t1p fun d2 =>
              ∃ (p2 : Option Addr) (n2 : Nat) (c2 : Nat), w.cell? (d2.add (t17.toNat * 1)) = some (Value.slice p2 n2 c2) ∧
              (callP Try.prog 38 #[(Value.slice p1 n1 c1), (Value.slice p2 n2 c2)] w (fun v1 w1 =>
                  dB v1 fun b1 =>
                  cond (!b1) (
                    R (.returned (Value.bool false)) w1) (
                    C1 t1p t1n t1c t15p t15n t15c t16 (IntKind.i64.wrap (t17 + 1)) w1)) (fun ch w2 => R (.panicked ch) w2)))))))) (
    R (.returned (Value.bool true)) w)
def slices_EqualFunc_byte_byte_byte_byte_f38.l1 (t1p : Option Addr) (t1n : Nat) (t1c : Nat) (t15p : Option Addr) (t15n : Nat) (t15c : Nat) (t16 : Int) (t17 : Int) (w : World) (R : Ending → World → Prop) : Prop :=
  ∃ (I : Option Addr → Nat → Nat → Option Addr → Nat → Nat → Int → Int → World → Prop) (m : Option Addr → Nat → Nat → Option Addr → Nat → Nat → Int → Int → World → Nat), I t1p t1n t1c t15p t15n t15c t16 t17 w ∧
  ∀ (t1p : Option Addr) (t1n : Nat) (t1c : Nat) (t15p : Option Addr) (t15n : Nat) (t15c : Nat) (t16 : Int) (t17 : Int) (w : World), I t1p t1n t1c t15p t15n t15c t16 t17 w →
  slices_EqualFunc_byte_byte_byte_byte_f38.b1 t1p t1n t1c t15p t15n t15c t16 t17 w R (fun t1p' t1n' t1c' t15p' t15n' t15c' t16' t17' w' => I t1p' t1n' t1c' t15p' t15n' t15c' t16' t17' w' ∧ m t1p' t1n' t1c' t15p' t15n' t15c' t16' t17' w' < m t1p t1n t1c t15p t15n t15c t16 t17 w)
def slices_EqualFunc_byte_byte_byte_byte_f38.main (a0p : Option Addr) (a0n : Nat) (a0c : Nat) (a1p : Option Addr) (a1n : Nat) (a1c : Nat) (w : World) (R : Ending → World → Prop) : Prop :=
  cond (((a0n : Nat) : Int) != ((a1n : Nat) : Int)) (
    R (.returned (Value.bool false)) w) (
    slices_EqualFunc_byte_byte_byte_byte_f38.l1 a1p a1n a1c a0p a0n a0c ((a0n : Nat) : Int) 0 w R)
abbrev slices_EqualFunc_byte_byte_byte_byte_f38.C (a0p : Option Addr) (a0n : Nat) (a0c : Nat) (a1p : Option Addr) (a1n : Nat) (a1c : Nat) (w : World) (R : Ending → World → Prop) : Prop := Calls Try.prog 37 #[(Value.slice a0p a0n a0c), (Value.slice a1p a1n a1c), (Value.func (.func 38) #[] #[])] w R
noncomputable def slices_EqualFunc_byte_byte_byte_byte_f38.code : Code := (Try.f37.body).getD .skip
noncomputable def slices_EqualFunc_byte_byte_byte_byte_f38.sk (R : Ending → World → Prop) : Sk := (.seq .leaf (.seq .leaf (.seq (.seq .leaf (.block (.loop [(1, .slice), (2, .fn0 38), (15, .slice), (16, .int .i64), (17, .int .i64)] (fun (t1p : Option Addr) (t1n : Nat) (t1c : Nat) (t15p : Option Addr) (t15n : Nat) (t15c : Nat) (t16 : Int) (t17 : Int) (w : World) => slices_EqualFunc_byte_byte_byte_byte_f38.l1 t1p t1n t1c t15p t15n t15c t16 t17 w R) (fun (C1 : Option Addr → Nat → Nat → Option Addr → Nat → Nat → Int → Int → World → Prop) => .leaf)))) .leaf)))
def slices_EqualFunc_byte_byte_byte_byte_f38.owed (R : Ending → World → Prop) : Prop :=
  (∀ (t1p : Option Addr) (t1n : Nat) (t1c : Nat) (t15p : Option Addr) (t15n : Nat) (t15c : Nat) (t16 : Int) (t17 : Int) (w : World), slices_EqualFunc_byte_byte_byte_byte_f38.l1 t1p t1n t1c t15p t15n t15c t16 t17 w R → slices_EqualFunc_byte_byte_byte_byte_f38.l1 t1p t1n t1c t15p t15n t15c t16 t17 w R) ∧ (∀ (C1 : Option Addr → Nat → Nat → Option Addr → Nat → Nat → Int → Int → World → Prop), True) ∧ True
theorem slices_EqualFunc_byte_byte_byte_byte_f38.pays (R : Ending → World → Prop) : slices_EqualFunc_byte_byte_byte_byte_f38.owed R := ⟨(fun _ _ _ _ _ _ _ _ _ h => h), (fun _ => trivial), trivial⟩
set_option maxRecDepth 100000 in
theorem slices_EqualFunc_byte_byte_byte_byte_f38.ok {a0p : Option Addr} {a0n : Nat} {a0c : Nat} {a1p : Option Addr} {a1n : Nat} {a1c : Nat} {w : World} {R : Ending → World → Prop} (h : slices_EqualFunc_byte_byte_byte_byte_f38.main a0p a0n a0c a1p a1n a1c w R) : slices_EqualFunc_byte_byte_byte_byte_f38.C a0p a0n a0c a1p a1n a1c w R :=
  ev_ok cxok (c := cx) Try.func37 (code := slices_EqualFunc_byte_byte_byte_byte_f38.code) (by kernel_rfl) [.tmp 6] (by kernel_rfl) 32 (by kernel_rfl) (slices_EqualFunc_byte_byte_byte_byte_f38.sk R) (args := [(Value.slice a0p a0n a0c), (Value.slice a1p a1n a1c), (Value.func (.func 38) #[] #[])]) (Nat.le_of_ble_eq_true rfl) (by kernel_rfl) (o := slices_EqualFunc_byte_byte_byte_byte_f38.owed R) (by kernel_rfl) (slices_EqualFunc_byte_byte_byte_byte_f38.pays R) h

/-! ### slices.Chunk[[]byte,byte]$1: function 70 -/
def slices_Chunk_byte_byte_1_y.b1 (t0 : Nat) (t1 : Nat) (t2 : Nat) (t4 : Int) (w : World) (R : Ending → World → Prop) (C1 : Nat → Nat → Nat → Int → World → Prop) : Prop :=
  ∃ (p1 : Option Addr) (n1 : Nat) (c1 : Nat), w.cell? (⟨t1, 0, none⟩ : Addr) = some (Value.slice p1 n1 c1) ∧
  (cond (decide (t4 < ((n1 : Nat) : Int))) (
      ∃ (x1 : Int), w.drew.cell? (⟨t2, 0, none⟩ : Addr) = some (Value.int .i64 x1) ∧
      (∃ (p2 : Option Addr) (n2 : Nat) (c2 : Nat), w.drew.cell? (⟨t1, 0, none⟩ : Addr) = some (Value.slice p2 n2 c2) ∧
        (chk (decide (0 ≤ t4)) (
            chk (decide (t4 ≤ ((n2 : Nat) : Int))) (
              ∃ (p3 : Option Addr) (n3 : Nat) (c3 : Nat), w.drew.cell? (⟨t1, 0, none⟩ : Addr) = some (Value.slice p3 n3 c3) ∧
              (chk (decide (0 ≤ (IntKind.i64.wrap (t4 + (min2 x1 (((n2 - t4.toNat) : Nat) : Int)))))) (
                  chk (decide ((IntKind.i64.wrap (t4 + (min2 x1 (((n2 - t4.toNat) : Nat) : Int)))) ≤ ((c3 : Nat) : Int))) (
                    chk (decide (0 ≤ (IntKind.i64.wrap (t4 + (min2 x1 (((n2 - t4.toNat) : Nat) : Int)))))) (
                      chk (decide ((IntKind.i64.wrap (t4 + (min2 x1 (((n2 - t4.toNat) : Nat) : Int)))) ≤ (((IntKind.i64.wrap (t4 + (min2 x1 (((n2 - t4.toNat) : Nat) : Int)))).toNat : Nat) : Int))) (
                        chk (decide (0 ≤ t4)) (
                          chk (decide (t4 ≤ (((IntKind.i64.wrap (t4 + (min2 x1 (((n2 - t4.toNat) : Nat) : Int)))).toNat : Nat) : Int))) (
                          yldP Try.prog t0 #[(Value.slice (slA p3 ((IntKind.i64.wrap (t4 + (min2 x1 (((n2 - t4.toNat) : Nat) : Int)))).toNat) t4.toNat 1) ((IntKind.i64.wrap (t4 + (min2 x1 (((n2 - t4.toNat) : Nat) : Int)))).toNat - t4.toNat) ((IntKind.i64.wrap (t4 + (min2 x1 (((n2 - t4.toNat) : Nat) : Int)))).toNat - t4.toNat))] w.drew fun v1 w1 =>
                          dB v1 fun b1 =>
                          cond (!b1) (
                          R (.returned (Value.tuple #[])) w1) (
                          ∃ (x2 : Int), w1.cell? (⟨t2, 0, none⟩ : Addr) = some (Value.int .i64 x2) ∧
                          (C1 t0 t1 t2 (IntKind.i64.wrap (t4 + x2)) w1)))))))))))))) (
      R (.returned (Value.tuple #[])) w))
def slices_Chunk_byte_byte_1_y.l1 (t0 : Nat) (t1 : Nat) (t2 : Nat) (t4 : Int) (w : World) (R : Ending → World → Prop) : Prop :=
  ∃ (I : Nat → Nat → Nat → Int → World → Prop) (m : Nat → Nat → Nat → Int → World → Nat), I t0 t1 t2 t4 w ∧
  ∀ (t0 : Nat) (t1 : Nat) (t2 : Nat) (t4 : Int) (w : World), I t0 t1 t2 t4 w →
  slices_Chunk_byte_byte_1_y.b1 t0 t1 t2 t4 w R (fun t0' t1' t2' t4' w' => I t0' t1' t2' t4' w' ∧ m t0' t1' t2' t4' w' < m t0 t1 t2 t4 w)
def slices_Chunk_byte_byte_1_y.main (l : Nat) (q0 : Nat) (q1 : Nat) (w : World) (R : Ending → World → Prop) : Prop :=
  slices_Chunk_byte_byte_1_y.l1 l q0 q1 0 w R
abbrev slices_Chunk_byte_byte_1_y.C (l : Nat) (q0 : Nat) (q1 : Nat) (w : World) (R : Ending → World → Prop) : Prop := CallsIn Fence.wide 0 Try.prog 70 #[(Value.func (.yield l) #[] #[]), (Value.pointer (some (⟨q0, 0, none⟩ : Addr))), (Value.pointer (some (⟨q1, 0, none⟩ : Addr)))] w R
noncomputable def slices_Chunk_byte_byte_1_y.code : Code := (Try.f70.body).getD .skip
noncomputable def slices_Chunk_byte_byte_1_y.sk (R : Ending → World → Prop) : Sk := (.seq .leaf (.block (.loop [(0, .yld), (1, .blk), (2, .blk), (4, .int .i64)] (fun (t0 : Nat) (t1 : Nat) (t2 : Nat) (t4 : Int) (w : World) => slices_Chunk_byte_byte_1_y.l1 t0 t1 t2 t4 w R) (fun (C1 : Nat → Nat → Nat → Int → World → Prop) => .leaf))))
def slices_Chunk_byte_byte_1_y.owed (R : Ending → World → Prop) : Prop :=
  (∀ (t0 : Nat) (t1 : Nat) (t2 : Nat) (t4 : Int) (w : World), slices_Chunk_byte_byte_1_y.l1 t0 t1 t2 t4 w R → slices_Chunk_byte_byte_1_y.l1 t0 t1 t2 t4 w R) ∧ (∀ (C1 : Nat → Nat → Nat → Int → World → Prop), True) ∧ True
theorem slices_Chunk_byte_byte_1_y.pays (R : Ending → World → Prop) : slices_Chunk_byte_byte_1_y.owed R := ⟨(fun _ _ _ _ _ h => h), (fun _ => trivial), trivial⟩
set_option maxRecDepth 100000 in
theorem slices_Chunk_byte_byte_1_y.ok {l : Nat} {q0 : Nat} {q1 : Nat} {w : World} {R : Ending → World → Prop} (h : slices_Chunk_byte_byte_1_y.main l q0 q1 w R) : slices_Chunk_byte_byte_1_y.C l q0 q1 w R :=
  evX_ok cxok (c := cx) Try.func70 (code := slices_Chunk_byte_byte_1_y.code) (by kernel_rfl) [] (by kernel_rfl) 31 (by kernel_rfl) (slices_Chunk_byte_byte_1_y.sk R) (args := [(Value.func (.yield l) #[] #[]), (Value.pointer (some (⟨q0, 0, none⟩ : Addr))), (Value.pointer (some (⟨q1, 0, none⟩ : Addr)))]) (Nat.le_of_ble_eq_true rfl) (by kernel_rfl) (o := slices_Chunk_byte_byte_1_y.owed R) (by kernel_rfl) (slices_Chunk_byte_byte_1_y.pays R) h

/-! ### slices.IndexFunc[[]complex128,complex128]: function 93 -/
def slices_IndexFunc_complex128_complex128_f85.b1 (t0p : Option Addr) (t0n : Nat) (t0c : Nat) (t1 : Nat) (t7 : Int) (t8 : Int) (w : World) (R : Ending → World → Prop) (C1 : Option Addr → Nat → Nat → Nat → Int → Int → World → Prop) : Prop :=
  cond (decide (t8 < t7)) (
    chk (decide (0 ≤ t8)) (
      chk (decide (t8 < ((t0n : Nat) : Int))) (
        optP t0p fun d1 =>
        ∃ (r1 : Nat) (m1 : Nat), w.cell? (d1.add (t8.toNat * 1)) = some (Value.complex .f64 r1 m1) ∧
        (callP Try.prog 85 #[(Value.complex .f64 r1 m1), (Value.pointer (some (⟨t1, 0, none⟩ : Addr)))] w (fun v1 w1 =>
            dB v1 fun b1 =>
            cond b1 (
              R (.returned (Value.int .i64 t8)) w1) (
              C1 t0p t0n t0c t1 t7 (IntKind.i64.wrap (t8 + 1)) w1)) (fun ch w2 => R (.panicked ch) w2))))) (
    R (.returned (Value.int .i64 (-1))) w)
def slices_IndexFunc_complex128_complex128_f85.l1 (t0p : Option Addr) (t0n : Nat) (t0c : Nat) (t1 : Nat) (t7 : Int) (t8 : Int) (w : World) (R : Ending → World → Prop) : Prop :=
  ∃ (I : Option Addr → Nat → Nat → Nat → Int → Int → World → Prop) (m : Option Addr → Nat → Nat → Nat → Int → Int → World → Nat), I t0p t0n t0c t1 t7 t8 w ∧
  ∀ (t0p : Option Addr) (t0n : Nat) (t0c : Nat) (t1 : Nat) (t7 : Int) (t8 : Int) (w : World), I t0p t0n t0c t1 t7 t8 w →
  slices_IndexFunc_complex128_complex128_f85.b1 t0p t0n t0c t1 t7 t8 w R (fun t0p' t0n' t0c' t1' t7' t8' w' => I t0p' t0n' t0c' t1' t7' t8' w' ∧ m t0p' t0n' t0c' t1' t7' t8' w' < m t0p t0n t0c t1 t7 t8 w)
def slices_IndexFunc_complex128_complex128_f85.main (a0p : Option Addr) (a0n : Nat) (a0c : Nat) (a1q0 : Nat) (w : World) (R : Ending → World → Prop) : Prop :=
  slices_IndexFunc_complex128_complex128_f85.l1 a0p a0n a0c a1q0 ((a0n : Nat) : Int) 0 w R
abbrev slices_IndexFunc_complex128_complex128_f85.C (a0p : Option Addr) (a0n : Nat) (a0c : Nat) (a1q0 : Nat) (w : World) (R : Ending → World → Prop) : Prop := Calls Try.prog 93 #[(Value.slice a0p a0n a0c), (Value.func (.func 85) #[] #[(Value.pointer (some (⟨a1q0, 0, none⟩ : Addr)))])] w R
noncomputable def slices_IndexFunc_complex128_complex128_f85.code : Code := (Try.f93.body).getD .skip
noncomputable def slices_IndexFunc_complex128_complex128_f85.sk (R : Ending → World → Prop) : Sk := (.seq .leaf (.seq (.seq .leaf (.block (.loop [(0, .slice), (1, .fn1 85), (7, .int .i64), (8, .int .i64)] (fun (t0p : Option Addr) (t0n : Nat) (t0c : Nat) (t1 : Nat) (t7 : Int) (t8 : Int) (w : World) => slices_IndexFunc_complex128_complex128_f85.l1 t0p t0n t0c t1 t7 t8 w R) (fun (C1 : Option Addr → Nat → Nat → Nat → Int → Int → World → Prop) => .leaf)))) .leaf))
def slices_IndexFunc_complex128_complex128_f85.owed (R : Ending → World → Prop) : Prop :=
  (∀ (t0p : Option Addr) (t0n : Nat) (t0c : Nat) (t1 : Nat) (t7 : Int) (t8 : Int) (w : World), slices_IndexFunc_complex128_complex128_f85.l1 t0p t0n t0c t1 t7 t8 w R → slices_IndexFunc_complex128_complex128_f85.l1 t0p t0n t0c t1 t7 t8 w R) ∧ (∀ (C1 : Option Addr → Nat → Nat → Nat → Int → Int → World → Prop), True) ∧ True
theorem slices_IndexFunc_complex128_complex128_f85.pays (R : Ending → World → Prop) : slices_IndexFunc_complex128_complex128_f85.owed R := ⟨(fun _ _ _ _ _ _ _ h => h), (fun _ => trivial), trivial⟩
set_option maxRecDepth 100000 in
theorem slices_IndexFunc_complex128_complex128_f85.ok {a0p : Option Addr} {a0n : Nat} {a0c : Nat} {a1q0 : Nat} {w : World} {R : Ending → World → Prop} (h : slices_IndexFunc_complex128_complex128_f85.main a0p a0n a0c a1q0 w R) : slices_IndexFunc_complex128_complex128_f85.C a0p a0n a0c a1q0 w R :=
  ev_ok cxok (c := cx) Try.func93 (code := slices_IndexFunc_complex128_complex128_f85.code) (by kernel_rfl) [.tmp 4] (by kernel_rfl) 19 (by kernel_rfl) (slices_IndexFunc_complex128_complex128_f85.sk R) (args := [(Value.slice a0p a0n a0c), (Value.func (.func 85) #[] #[(Value.pointer (some (⟨a1q0, 0, none⟩ : Addr)))])]) (Nat.le_of_ble_eq_true rfl) (by kernel_rfl) (o := slices_IndexFunc_complex128_complex128_f85.owed R) (by kernel_rfl) (slices_IndexFunc_complex128_complex128_f85.pays R) h

/-! ### slices.IndexFunc[[]complex128,complex128]: function 93 -/
def slices_IndexFunc_complex128_complex128_f91.b1 (t0p : Option Addr) (t0n : Nat) (t0c : Nat) (t7 : Int) (t8 : Int) (w : World) (R : Ending → World → Prop) (C1 : Option Addr → Nat → Nat → Int → Int → World → Prop) : Prop :=
  cond (decide (t8 < t7)) (
    chk (decide (0 ≤ t8)) (
      chk (decide (t8 < ((t0n : Nat) : Int))) (
        optP t0p fun d1 =>
        ∃ (r1 : Nat) (m1 : Nat), w.cell? (d1.add (t8.toNat * 1)) = some (Value.complex .f64 r1 m1) ∧
        (callP Try.prog 91 #[(Value.complex .f64 r1 m1)] w (fun v1 w1 =>
            dB v1 fun b1 =>
            cond b1 (
              R (.returned (Value.int .i64 t8)) w1) (
              C1 t0p t0n t0c t7 (IntKind.i64.wrap (t8 + 1)) w1)) (fun ch w2 => R (.panicked ch) w2))))) (
    R (.returned (Value.int .i64 (-1))) w)
def slices_IndexFunc_complex128_complex128_f91.l1 (t0p : Option Addr) (t0n : Nat) (t0c : Nat) (t7 : Int) (t8 : Int) (w : World) (R : Ending → World → Prop) : Prop :=
  ∃ (I : Option Addr → Nat → Nat → Int → Int → World → Prop) (m : Option Addr → Nat → Nat → Int → Int → World → Nat), I t0p t0n t0c t7 t8 w ∧
  ∀ (t0p : Option Addr) (t0n : Nat) (t0c : Nat) (t7 : Int) (t8 : Int) (w : World), I t0p t0n t0c t7 t8 w →
  slices_IndexFunc_complex128_complex128_f91.b1 t0p t0n t0c t7 t8 w R (fun t0p' t0n' t0c' t7' t8' w' => I t0p' t0n' t0c' t7' t8' w' ∧ m t0p' t0n' t0c' t7' t8' w' < m t0p t0n t0c t7 t8 w)
def slices_IndexFunc_complex128_complex128_f91.main (a0p : Option Addr) (a0n : Nat) (a0c : Nat) (w : World) (R : Ending → World → Prop) : Prop :=
  slices_IndexFunc_complex128_complex128_f91.l1 a0p a0n a0c ((a0n : Nat) : Int) 0 w R
abbrev slices_IndexFunc_complex128_complex128_f91.C (a0p : Option Addr) (a0n : Nat) (a0c : Nat) (w : World) (R : Ending → World → Prop) : Prop := Calls Try.prog 93 #[(Value.slice a0p a0n a0c), (Value.func (.func 91) #[] #[])] w R
noncomputable def slices_IndexFunc_complex128_complex128_f91.code : Code := (Try.f93.body).getD .skip
noncomputable def slices_IndexFunc_complex128_complex128_f91.sk (R : Ending → World → Prop) : Sk := (.seq .leaf (.seq (.seq .leaf (.block (.loop [(0, .slice), (1, .fn0 91), (7, .int .i64), (8, .int .i64)] (fun (t0p : Option Addr) (t0n : Nat) (t0c : Nat) (t7 : Int) (t8 : Int) (w : World) => slices_IndexFunc_complex128_complex128_f91.l1 t0p t0n t0c t7 t8 w R) (fun (C1 : Option Addr → Nat → Nat → Int → Int → World → Prop) => .leaf)))) .leaf))
def slices_IndexFunc_complex128_complex128_f91.owed (R : Ending → World → Prop) : Prop :=
  (∀ (t0p : Option Addr) (t0n : Nat) (t0c : Nat) (t7 : Int) (t8 : Int) (w : World), slices_IndexFunc_complex128_complex128_f91.l1 t0p t0n t0c t7 t8 w R → slices_IndexFunc_complex128_complex128_f91.l1 t0p t0n t0c t7 t8 w R) ∧ (∀ (C1 : Option Addr → Nat → Nat → Int → Int → World → Prop), True) ∧ True
theorem slices_IndexFunc_complex128_complex128_f91.pays (R : Ending → World → Prop) : slices_IndexFunc_complex128_complex128_f91.owed R := ⟨(fun _ _ _ _ _ _ h => h), (fun _ => trivial), trivial⟩
set_option maxRecDepth 100000 in
theorem slices_IndexFunc_complex128_complex128_f91.ok {a0p : Option Addr} {a0n : Nat} {a0c : Nat} {w : World} {R : Ending → World → Prop} (h : slices_IndexFunc_complex128_complex128_f91.main a0p a0n a0c w R) : slices_IndexFunc_complex128_complex128_f91.C a0p a0n a0c w R :=
  ev_ok cxok (c := cx) Try.func93 (code := slices_IndexFunc_complex128_complex128_f91.code) (by kernel_rfl) [.tmp 4] (by kernel_rfl) 19 (by kernel_rfl) (slices_IndexFunc_complex128_complex128_f91.sk R) (args := [(Value.slice a0p a0n a0c), (Value.func (.func 91) #[] #[])]) (Nat.le_of_ble_eq_true rfl) (by kernel_rfl) (o := slices_IndexFunc_complex128_complex128_f91.owed R) (by kernel_rfl) (slices_IndexFunc_complex128_complex128_f91.pays R) h

/-! ### slices.IndexFunc[[]stopcock/api.Write,stopcock/api.Write]: function 47 -/
def api_Write_f27.b1 (t0p : Option Addr) (t0n : Nat) (t0c : Nat) (t7 : Int) (t8 : Int) (w : World) (R : Ending → World → Prop) (C1 : Option Addr → Nat → Nat → Int → Int → World → Prop) : Prop :=
  cond (decide (t8 < t7)) (
    chk (decide (0 ≤ t8)) (
      chk (decide (t8 < ((t0n : Nat) : Int))) (
        optP t0p fun d1 =>
        ∃ (cs1 : Array Value), cs1.size = 2 ∧ CellsAt w (d1.add (t8.toNat * 2)) cs1.toList ∧
        (callP Try.prog 27 #[(Value.agg cs1)] w (fun v1 w1 =>
            dB v1 fun b1 =>
            cond b1 (
              R (.returned (Value.int .i64 t8)) w1) (
              C1 t0p t0n t0c t7 (IntKind.i64.wrap (t8 + 1)) w1)) (fun ch w2 => R (.panicked ch) w2))))) (
    R (.returned (Value.int .i64 (-1))) w)
def api_Write_f27.l1 (t0p : Option Addr) (t0n : Nat) (t0c : Nat) (t7 : Int) (t8 : Int) (w : World) (R : Ending → World → Prop) : Prop :=
  ∃ (I : Option Addr → Nat → Nat → Int → Int → World → Prop) (m : Option Addr → Nat → Nat → Int → Int → World → Nat), I t0p t0n t0c t7 t8 w ∧
  ∀ (t0p : Option Addr) (t0n : Nat) (t0c : Nat) (t7 : Int) (t8 : Int) (w : World), I t0p t0n t0c t7 t8 w →
  api_Write_f27.b1 t0p t0n t0c t7 t8 w R (fun t0p' t0n' t0c' t7' t8' w' => I t0p' t0n' t0c' t7' t8' w' ∧ m t0p' t0n' t0c' t7' t8' w' < m t0p t0n t0c t7 t8 w)
def api_Write_f27.main (a0p : Option Addr) (a0n : Nat) (a0c : Nat) (w : World) (R : Ending → World → Prop) : Prop :=
  api_Write_f27.l1 a0p a0n a0c ((a0n : Nat) : Int) 0 w R
abbrev api_Write_f27.C (a0p : Option Addr) (a0n : Nat) (a0c : Nat) (w : World) (R : Ending → World → Prop) : Prop := Calls Try.prog 47 #[(Value.slice a0p a0n a0c), (Value.func (.func 27) #[] #[])] w R
noncomputable def api_Write_f27.code : Code := (Try.f47.body).getD .skip
noncomputable def api_Write_f27.sk (R : Ending → World → Prop) : Sk := (.seq .leaf (.seq (.seq .leaf (.block (.loop [(0, .slice), (1, .fn0 27), (7, .int .i64), (8, .int .i64)] (fun (t0p : Option Addr) (t0n : Nat) (t0c : Nat) (t7 : Int) (t8 : Int) (w : World) => api_Write_f27.l1 t0p t0n t0c t7 t8 w R) (fun (C1 : Option Addr → Nat → Nat → Int → Int → World → Prop) => .leaf)))) .leaf))
def api_Write_f27.owed (R : Ending → World → Prop) : Prop :=
  (∀ (t0p : Option Addr) (t0n : Nat) (t0c : Nat) (t7 : Int) (t8 : Int) (w : World), api_Write_f27.l1 t0p t0n t0c t7 t8 w R → api_Write_f27.l1 t0p t0n t0c t7 t8 w R) ∧ (∀ (C1 : Option Addr → Nat → Nat → Int → Int → World → Prop), True) ∧ True
theorem api_Write_f27.pays (R : Ending → World → Prop) : api_Write_f27.owed R := ⟨(fun _ _ _ _ _ _ h => h), (fun _ => trivial), trivial⟩
set_option maxRecDepth 100000 in
theorem api_Write_f27.ok {a0p : Option Addr} {a0n : Nat} {a0c : Nat} {w : World} {R : Ending → World → Prop} (h : api_Write_f27.main a0p a0n a0c w R) : api_Write_f27.C a0p a0n a0c w R :=
  ev_ok cxok (c := cx) Try.func47 (code := api_Write_f27.code) (by kernel_rfl) [.tmp 4] (by kernel_rfl) 19 (by kernel_rfl) (api_Write_f27.sk R) (args := [(Value.slice a0p a0n a0c), (Value.func (.func 27) #[] #[])]) (Nat.le_of_ble_eq_true rfl) (by kernel_rfl) (o := api_Write_f27.owed R) (by kernel_rfl) (api_Write_f27.pays R) h

/-! ### slices.IndexFunc[[]stopcock/api.Write,stopcock/api.Write]: function 47 -/
def api_Write_f28.b1 (t0p : Option Addr) (t0n : Nat) (t0c : Nat) (t1 : Nat) (t7 : Int) (t8 : Int) (w : World) (R : Ending → World → Prop) (C1 : Option Addr → Nat → Nat → Nat → Int → Int → World → Prop) : Prop :=
  cond (decide (t8 < t7)) (
    chk (decide (0 ≤ t8)) (
      chk (decide (t8 < ((t0n : Nat) : Int))) (
        optP t0p fun d1 =>
        ∃ (cs1 : Array Value), cs1.size = 2 ∧ CellsAt w (d1.add (t8.toNat * 2)) cs1.toList ∧
        (callP Try.prog 28 #[(Value.agg cs1), (Value.pointer (some (⟨t1, 0, none⟩ : Addr)))] w (fun v1 w1 =>
            dB v1 fun b1 =>
            cond b1 (
              R (.returned (Value.int .i64 t8)) w1) (
              C1 t0p t0n t0c t1 t7 (IntKind.i64.wrap (t8 + 1)) w1)) (fun ch w2 => R (.panicked ch) w2))))) (
    R (.returned (Value.int .i64 (-1))) w)
def api_Write_f28.l1 (t0p : Option Addr) (t0n : Nat) (t0c : Nat) (t1 : Nat) (t7 : Int) (t8 : Int) (w : World) (R : Ending → World → Prop) : Prop :=
  ∃ (I : Option Addr → Nat → Nat → Nat → Int → Int → World → Prop) (m : Option Addr → Nat → Nat → Nat → Int → Int → World → Nat), I t0p t0n t0c t1 t7 t8 w ∧
  ∀ (t0p : Option Addr) (t0n : Nat) (t0c : Nat) (t1 : Nat) (t7 : Int) (t8 : Int) (w : World), I t0p t0n t0c t1 t7 t8 w →
  api_Write_f28.b1 t0p t0n t0c t1 t7 t8 w R (fun t0p' t0n' t0c' t1' t7' t8' w' => I t0p' t0n' t0c' t1' t7' t8' w' ∧ m t0p' t0n' t0c' t1' t7' t8' w' < m t0p t0n t0c t1 t7 t8 w)
def api_Write_f28.main (a0p : Option Addr) (a0n : Nat) (a0c : Nat) (a1q0 : Nat) (w : World) (R : Ending → World → Prop) : Prop :=
  api_Write_f28.l1 a0p a0n a0c a1q0 ((a0n : Nat) : Int) 0 w R
abbrev api_Write_f28.C (a0p : Option Addr) (a0n : Nat) (a0c : Nat) (a1q0 : Nat) (w : World) (R : Ending → World → Prop) : Prop := Calls Try.prog 47 #[(Value.slice a0p a0n a0c), (Value.func (.func 28) #[] #[(Value.pointer (some (⟨a1q0, 0, none⟩ : Addr)))])] w R
noncomputable def api_Write_f28.code : Code := (Try.f47.body).getD .skip
noncomputable def api_Write_f28.sk (R : Ending → World → Prop) : Sk := (.seq .leaf (.seq (.seq .leaf (.block (.loop [(0, .slice), (1, .fn1 28), (7, .int .i64), (8, .int .i64)] (fun (t0p : Option Addr) (t0n : Nat) (t0c : Nat) (t1 : Nat) (t7 : Int) (t8 : Int) (w : World) => api_Write_f28.l1 t0p t0n t0c t1 t7 t8 w R) (fun (C1 : Option Addr → Nat → Nat → Nat → Int → Int → World → Prop) => .leaf)))) .leaf))
def api_Write_f28.owed (R : Ending → World → Prop) : Prop :=
  (∀ (t0p : Option Addr) (t0n : Nat) (t0c : Nat) (t1 : Nat) (t7 : Int) (t8 : Int) (w : World), api_Write_f28.l1 t0p t0n t0c t1 t7 t8 w R → api_Write_f28.l1 t0p t0n t0c t1 t7 t8 w R) ∧ (∀ (C1 : Option Addr → Nat → Nat → Nat → Int → Int → World → Prop), True) ∧ True
theorem api_Write_f28.pays (R : Ending → World → Prop) : api_Write_f28.owed R := ⟨(fun _ _ _ _ _ _ _ h => h), (fun _ => trivial), trivial⟩
set_option maxRecDepth 100000 in
theorem api_Write_f28.ok {a0p : Option Addr} {a0n : Nat} {a0c : Nat} {a1q0 : Nat} {w : World} {R : Ending → World → Prop} (h : api_Write_f28.main a0p a0n a0c a1q0 w R) : api_Write_f28.C a0p a0n a0c a1q0 w R :=
  ev_ok cxok (c := cx) Try.func47 (code := api_Write_f28.code) (by kernel_rfl) [.tmp 4] (by kernel_rfl) 19 (by kernel_rfl) (api_Write_f28.sk R) (args := [(Value.slice a0p a0n a0c), (Value.func (.func 28) #[] #[(Value.pointer (some (⟨a1q0, 0, none⟩ : Addr)))])]) (Nat.le_of_ble_eq_true rfl) (by kernel_rfl) (o := api_Write_f28.owed R) (by kernel_rfl) (api_Write_f28.pays R) h

end Go.Proofs.Ythgmebhkbbehmaa.G

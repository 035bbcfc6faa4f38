/- Statements of functions, and that their calls do what they say. Printed by wip/tool/dec.py. Conditions: none. -/
import Derived.Test.YtokepljpieboiaaG0
namespace Go.Proofs.Ytokepljpieboiaa.G
open Go.Dec
set_option linter.unusedVariables false

/-! ### stopcock/axis.Flat: function 50 -/
def axis_Flat.main (a0r : Nat) (a0m : Nat) (a1 : Int) (w : World) (R : Ending → World → Prop) : Prop :=
  callP Try.prog 65 #[(Value.complex .f64 a0r a0m)] w (fun v1 w1 =>
    dT v1 fun vs1 =>
    optP (vs1[0]?) fun v2 =>
    dI .i64 v2 fun x1 =>
    optP (vs1[1]?) fun v3 =>
    dI .i64 v3 fun x2 =>
    optP (vs1[2]?) fun v4 =>
    dI .i64 v4 fun x3 =>
    callP Try.prog 46 #[(Value.int .i64 a1)] w1 (fun v5 w3 =>
      dB v5 fun b1 =>
      cond (!b1) (
        R (.returned (Value.tuple #[(Value.int .i64 0), (Value.int .i64 1)])) w3) (
        cond (x3 != 0) (
          R (.returned (Value.tuple #[(Value.int .i64 0), (Value.int .i64 x3)])) w3) (
          cond (decide (x2 ≥ a1)) (
            R (.returned (Value.tuple #[(Value.int .i64 0), (Value.int .i64 5)])) w3) (
            R (.returned (Value.tuple #[(Value.int .i64 (IntKind.i64.wrap ((IntKind.i64.wrap (x1 * a1)) + x2))), (Value.int .i64 0)])) w3)))) (fun ch w4 => R (.panicked ch) w4)) (fun ch w2 => R (.panicked ch) w2)
abbrev axis_Flat.C (a0r : Nat) (a0m : Nat) (a1 : Int) (w : World) (R : Ending → World → Prop) : Prop := Calls Try.prog 50 #[(Value.complex .f64 a0r a0m), (Value.int .i64 a1)] w R
noncomputable def axis_Flat.code : Code := (Try.f50.body).getD .skip
noncomputable def axis_Flat.sk (R : Ending → World → Prop) : Sk := .leaf
def axis_Flat.owed (R : Ending → World → Prop) : Prop :=
  True
theorem axis_Flat.pays (R : Ending → World → Prop) : axis_Flat.owed R := trivial
set_option maxRecDepth 100000 in
theorem axis_Flat.ok {a0r : Nat} {a0m : Nat} {a1 : Int} {w : World} {R : Ending → World → Prop} (h : axis_Flat.main a0r a0m a1 w R) : axis_Flat.C a0r a0m a1 w R :=
  ev_ok cxok (c := cx) Try.func50 (code := axis_Flat.code) (by kernel_rfl) [.tmp 4, .tmp 5] (by kernel_rfl) 32 (by kernel_rfl) (axis_Flat.sk R) (args := [(Value.complex .f64 a0r a0m), (Value.int .i64 a1)]) (Nat.le_of_ble_eq_true rfl) (by kernel_rfl) (o := axis_Flat.owed R) (by kernel_rfl) (axis_Flat.pays R) h

/-! ### stopcock/cell.Row: function 52 -/
def cell_Row.b1 (t0 : Int) (t4p : Option Addr) (t4n : Nat) (t4c : Nat) (t11p : Option Addr) (t11n : Nat) (t11c : Nat) (t12 : Int) (t13 : Int) (w : World) (R : Ending → World → Prop) (C1 : Int → Option Addr → Nat → Nat → Option Addr → Nat → Nat → Int → Int → World → Prop) : Prop :=
  cond (decide (t13 < t12)) (
    chk (decide (0 ≤ t13)) (
      chk (decide (t13 < ((t11n : Nat) : Int))) (
        optP t11p fun d1 =>
        ∃ (x1 : Int), w.cell? (d1.add (t13.toNat * 1)) = some (Value.int .i64 x1) ∧
        (callP Try.prog 66 #[(Value.slice t4p t4n t4c), (Value.int .i64 t0), (Value.int .i64 x1)] w (fun v2 w3 =>
            dT v2 fun vs1 =>
            optP (vs1[0]?) fun v3 =>
            dS v3 fun p1 n1 c1 =>
            optP (vs1[1]?) fun v4 =>
            dI .i64 v4 fun x2 =>
            cond (x2 != 0) (
              R (.returned (Value.tuple #[(Value.slice none 0 0), (Value.int .i64 x2)])) w3) (
              C1 t0 p1 n1 c1 t11p t11n t11c t12 (IntKind.i64.wrap (t13 + 1)) w3)) (fun ch w4 => R (.panicked ch) w4))))) (
    R (.returned (Value.tuple #[(Value.slice t4p t4n t4c), (Value.int .i64 0)])) w)
def cell_Row.l1 (t0 : Int) (t4p : Option Addr) (t4n : Nat) (t4c : Nat) (t11p : Option Addr) (t11n : Nat) (t11c : Nat) (t12 : Int) (t13 : Int) (w : World) (R : Ending → World → Prop) : Prop :=
  ∃ (I : Int → Option Addr → Nat → Nat → Option Addr → Nat → Nat → Int → Int → World → Prop) (m : Int → Option Addr → Nat → Nat → Option Addr → Nat → Nat → Int → Int → World → Nat), I t0 t4p t4n t4c t11p t11n t11c t12 t13 w ∧
  ∀ (t0 : Int) (t4p : Option Addr) (t4n : Nat) (t4c : Nat) (t11p : Option Addr) (t11n : Nat) (t11c : Nat) (t12 : Int) (t13 : Int) (w : World), I t0 t4p t4n t4c t11p t11n t11c t12 t13 w →
  cell_Row.b1 t0 t4p t4n t4c t11p t11n t11c t12 t13 w R (fun t0' t4p' t4n' t4c' t11p' t11n' t11c' t12' t13' w' => I t0' t4p' t4n' t4c' t11p' t11n' t11c' t12' t13' w' ∧ m t0' t4p' t4n' t4c' t11p' t11n' t11c' t12' t13' w' < m t0 t4p t4n t4c t11p t11n t11c t12 t13 w)
def cell_Row.main (a0 : Int) (a1p : Option Addr) (a1n : Nat) (a1c : Nat) (w : World) (R : Ending → World → Prop) : Prop :=
  callP Try.prog 44 #[(Value.int .i64 a0)] w (fun v1 w1 =>
    dB v1 fun b1 =>
    cond (!b1) (
      R (.returned (Value.tuple #[(Value.slice none 0 0), (Value.int .i64 1)])) w1) (
      cell_Row.l1 a0 none 0 0 a1p a1n a1c ((a1n : Nat) : Int) 0 w1 R)) (fun ch w2 => R (.panicked ch) w2)
abbrev cell_Row.C (a0 : Int) (a1p : Option Addr) (a1n : Nat) (a1c : Nat) (w : World) (R : Ending → World → Prop) : Prop := Calls Try.prog 52 #[(Value.int .i64 a0), (Value.slice a1p a1n a1c)] w R
noncomputable def cell_Row.code : Code := (Try.f52.body).getD .skip
noncomputable def cell_Row.sk (R : Ending → World → Prop) : Sk := (.seq .leaf (.seq .leaf (.seq (.seq .leaf (.block (.loop [(0, .int .i64), (4, .slice), (11, .slice), (12, .int .i64), (13, .int .i64)] (fun (t0 : Int) (t4p : Option Addr) (t4n : Nat) (t4c : Nat) (t11p : Option Addr) (t11n : Nat) (t11c : Nat) (t12 : Int) (t13 : Int) (w : World) => cell_Row.l1 t0 t4p t4n t4c t11p t11n t11c t12 t13 w R) (fun (C1 : Int → Option Addr → Nat → Nat → Option Addr → Nat → Nat → Int → Int → World → Prop) => .leaf)))) .leaf)))
def cell_Row.owed (R : Ending → World → Prop) : Prop :=
  (∀ (t0 : Int) (t4p : Option Addr) (t4n : Nat) (t4c : Nat) (t11p : Option Addr) (t11n : Nat) (t11c : Nat) (t12 : Int) (t13 : Int) (w : World), cell_Row.l1 t0 t4p t4n t4c t11p t11n t11c t12 t13 w R → cell_Row.l1 t0 t4p t4n t4c t11p t11n t11c t12 t13 w R) ∧ (∀ (C1 : Int → Option Addr → Nat → Nat → Option Addr → Nat → Nat → Int → Int → World → Prop), True) ∧ True
theorem cell_Row.pays (R : Ending → World → Prop) : cell_Row.owed R := ⟨(fun _ _ _ _ _ _ _ _ _ _ h => h), (fun _ => trivial), trivial⟩
set_option maxRecDepth 100000 in
theorem cell_Row.ok {a0 : Int} {a1p : Option Addr} {a1n : Nat} {a1c : Nat} {w : World} {R : Ending → World → Prop} (h : cell_Row.main a0 a1p a1n a1c w R) : cell_Row.C a0 a1p a1n a1c w R :=
  ev_ok cxok (c := cx) Try.func52 (code := cell_Row.code) (by kernel_rfl) [.tmp 4, .tmp 5] (by kernel_rfl) 29 (by kernel_rfl) (cell_Row.sk R) (args := [(Value.int .i64 a0), (Value.slice a1p a1n a1c)]) (Nat.le_of_ble_eq_true rfl) (by kernel_rfl) (o := cell_Row.owed R) (by kernel_rfl) (cell_Row.pays R) h

/-! ### stopcock/seal.More: function 53 -/
def seal_More.b1 (t5 : Int) (t10p : Option Addr) (t10n : Nat) (t10c : Nat) (t11 : Int) (t12 : Int) (w : World) (R : Ending → World → Prop) (C1 : Int → Option Addr → Nat → Nat → Int → Int → World → Prop) : Prop :=
  cond (decide (t12 < t11)) (
    chk (decide (0 ≤ t12)) (
      chk (decide (t12 < ((t10n : Nat) : Int))) (
        optP t10p fun d1 =>
        ∃ (x1 : Int), w.cell? (d1.add (t12.toNat * 1)) = some (Value.int .u8 x1) ∧
        (callP Try.prog 67 #[(Value.int .u32 (IntKind.u32.wrap (BitVec.ofInt IntKind.u32.bits t5 ^^^ BitVec.ofInt IntKind.u32.bits (IntKind.u32.wrap ((IntKind.u32.wrap x1) * 2 ^ (min 24 IntKind.u32.bits)))).toNat))] w (fun v1 w1 =>
            dI .u32 v1 fun x2 =>
            C1 x2 t10p t10n t10c t11 (IntKind.i64.wrap (t12 + 1)) w1) (fun ch w2 => R (.panicked ch) w2))))) (
    R (.returned (Value.int .u32 (IntKind.u32.wrap (BitVec.ofInt IntKind.u32.bits (if IntKind.u32.signed then -1 else IntKind.u32.max) ^^^ BitVec.ofInt IntKind.u32.bits t5).toNat))) w)
def seal_More.l1 (t5 : Int) (t10p : Option Addr) (t10n : Nat) (t10c : Nat) (t11 : Int) (t12 : Int) (w : World) (R : Ending → World → Prop) : Prop :=
  ∃ (I : Int → Option Addr → Nat → Nat → Int → Int → World → Prop) (m : Int → Option Addr → Nat → Nat → Int → Int → World → Nat), I t5 t10p t10n t10c t11 t12 w ∧
  ∀ (t5 : Int) (t10p : Option Addr) (t10n : Nat) (t10c : Nat) (t11 : Int) (t12 : Int) (w : World), I t5 t10p t10n t10c t11 t12 w →
  seal_More.b1 t5 t10p t10n t10c t11 t12 w R (fun t5' t10p' t10n' t10c' t11' t12' w' => I t5' t10p' t10n' t10c' t11' t12' w' ∧ m t5' t10p' t10n' t10c' t11' t12' w' < m t5 t10p t10n t10c t11 t12 w)
def seal_More.main (a0 : Int) (a1p : Option Addr) (a1n : Nat) (a1c : Nat) (w : World) (R : Ending → World → Prop) : Prop :=
  seal_More.l1 (IntKind.u32.wrap (BitVec.ofInt IntKind.u32.bits (if IntKind.u32.signed then -1 else IntKind.u32.max) ^^^ BitVec.ofInt IntKind.u32.bits a0).toNat) a1p a1n a1c ((a1n : Nat) : Int) 0 w R
abbrev seal_More.C (a0 : Int) (a1p : Option Addr) (a1n : Nat) (a1c : Nat) (w : World) (R : Ending → World → Prop) : Prop := Calls Try.prog 53 #[(Value.int .u32 a0), (Value.slice a1p a1n a1c)] w R
noncomputable def seal_More.code : Code := (Try.f53.body).getD .skip
noncomputable def seal_More.sk (R : Ending → World → Prop) : Sk := (.seq .leaf (.seq .leaf (.seq (.seq .leaf (.block (.loop [(5, .int .u32), (10, .slice), (11, .int .i64), (12, .int .i64)] (fun (t5 : Int) (t10p : Option Addr) (t10n : Nat) (t10c : Nat) (t11 : Int) (t12 : Int) (w : World) => seal_More.l1 t5 t10p t10n t10c t11 t12 w R) (fun (C1 : Int → Option Addr → Nat → Nat → Int → Int → World → Prop) => .leaf)))) .leaf)))
def seal_More.owed (R : Ending → World → Prop) : Prop :=
  (∀ (t5 : Int) (t10p : Option Addr) (t10n : Nat) (t10c : Nat) (t11 : Int) (t12 : Int) (w : World), seal_More.l1 t5 t10p t10n t10c t11 t12 w R → seal_More.l1 t5 t10p t10n t10c t11 t12 w R) ∧ (∀ (C1 : Int → Option Addr → Nat → Nat → Int → Int → World → Prop), True) ∧ True
theorem seal_More.pays (R : Ending → World → Prop) : seal_More.owed R := ⟨(fun _ _ _ _ _ _ _ h => h), (fun _ => trivial), trivial⟩
set_option maxRecDepth 100000 in
theorem seal_More.ok {a0 : Int} {a1p : Option Addr} {a1n : Nat} {a1c : Nat} {w : World} {R : Ending → World → Prop} (h : seal_More.main a0 a1p a1n a1c w R) : seal_More.C a0 a1p a1n a1c w R :=
  ev_ok cxok (c := cx) Try.func53 (code := seal_More.code) (by kernel_rfl) [.tmp 4] (by kernel_rfl) 25 (by kernel_rfl) (seal_More.sk R) (args := [(Value.int .u32 a0), (Value.slice a1p a1n a1c)]) (Nat.le_of_ble_eq_true rfl) (by kernel_rfl) (o := seal_More.owed R) (by kernel_rfl) (seal_More.pays R) h

/-! ### stopcock/stopcockref01.Parts: function 58 -/
def stopcockref01_Parts.main (a0r : Nat) (a0m : Nat) (w : World) (R : Ending → World → Prop) : Prop :=
  callP Try.prog 73 #[(Value.float .f64 a0r), (Value.int .i64 24)] w (fun v1 w1 =>
    dI .i64 v1 fun x1 =>
    callP Try.prog 73 #[(Value.float .f64 a0m), (Value.int .i64 16)] w1 (fun v2 w3 =>
      dI .i64 v2 fun x2 =>
      cond (decide (x1 < 0)) (
        R (.returned (Value.tuple #[(Value.int .i64 0), (Value.int .i64 0), (Value.int .i64 2)])) w3) (
        cond (decide (x2 < 0)) (
          R (.returned (Value.tuple #[(Value.int .i64 0), (Value.int .i64 0), (Value.int .i64 2)])) w3) (
          R (.returned (Value.tuple #[(Value.int .i64 x1), (Value.int .i64 x2), (Value.int .i64 0)])) w3))) (fun ch w4 => R (.panicked ch) w4)) (fun ch w2 => R (.panicked ch) w2)
abbrev stopcockref01_Parts.C (a0r : Nat) (a0m : Nat) (w : World) (R : Ending → World → Prop) : Prop := Calls Try.prog 58 #[(Value.complex .f64 a0r a0m)] w R
noncomputable def stopcockref01_Parts.code : Code := (Try.f58.body).getD .skip
noncomputable def stopcockref01_Parts.sk (R : Ending → World → Prop) : Sk := .leaf
def stopcockref01_Parts.owed (R : Ending → World → Prop) : Prop :=
  True
theorem stopcockref01_Parts.pays (R : Ending → World → Prop) : stopcockref01_Parts.owed R := trivial
set_option maxRecDepth 100000 in
theorem stopcockref01_Parts.ok {a0r : Nat} {a0m : Nat} {w : World} {R : Ending → World → Prop} (h : stopcockref01_Parts.main a0r a0m w R) : stopcockref01_Parts.C a0r a0m w R :=
  ev_ok cxok (c := cx) Try.func58 (code := stopcockref01_Parts.code) (by kernel_rfl) [.tmp 2, .tmp 3, .tmp 4] (by kernel_rfl) 21 (by kernel_rfl) (stopcockref01_Parts.sk R) (args := [(Value.complex .f64 a0r a0m)]) (Nat.le_of_ble_eq_true rfl) (by kernel_rfl) (o := stopcockref01_Parts.owed R) (by kernel_rfl) (stopcockref01_Parts.pays R) h

/-! ### stopcock/stopcockref03.More: function 59 -/
def stopcockref03_More.b2 (t1p : Option Addr) (t1n : Nat) (t1c : Nat) (t5 : Int) (t6 : Int) (t7 : Int) (w : World) (R : Ending → World → Prop) (C1 : Option Addr → Nat → Nat → Int → Int → World → Prop) (C2 : Option Addr → Nat → Nat → Int → Int → Int → World → Prop) : Prop :=
  cond (decide (t7 ≥ 0)) (
    chk (decide (0 ≤ t6)) (
      chk (decide (t6 < ((t1n : Nat) : Int))) (
        optP t1p fun d1 =>
        ∃ (x1 : Int), w.cell? (d1.add (t6.toNat * 1)) = some (Value.int .u8 x1) ∧
        (chk (decide (0 ≤ t7)) (
            cond ((IntKind.u32.wrap (BitVec.ofInt IntKind.u32.bits (Int.fdiv t5 (2 ^ (min 31 IntKind.u32.bits))) ^^^ BitVec.ofInt IntKind.u32.bits (IntKind.u32.wrap (BitVec.ofInt IntKind.u32.bits (Int.fdiv (IntKind.u32.wrap x1) (2 ^ (min t7.toNat IntKind.u32.bits))) &&& BitVec.ofInt IntKind.u32.bits 1).toNat)).toNat) == 1) (
              C2 t1p t1n t1c (IntKind.u32.wrap (BitVec.ofInt IntKind.u32.bits (IntKind.u32.wrap (t5 * 2)) ^^^ BitVec.ofInt IntKind.u32.bits 79764919).toNat) t6 (IntKind.i64.wrap (t7 - 1)) w) (
              C2 t1p t1n t1c (IntKind.u32.wrap (t5 * 2)) t6 (IntKind.i64.wrap (t7 - 1)) w)))))) (
    C1 t1p t1n t1c t5 (IntKind.i64.wrap (t6 + 1)) w)
def stopcockref03_More.l2 (t1p : Option Addr) (t1n : Nat) (t1c : Nat) (t5 : Int) (t6 : Int) (t7 : Int) (w : World) (R : Ending → World → Prop) (C1 : Option Addr → Nat → Nat → Int → Int → World → Prop) : Prop :=
  ∃ (I : Option Addr → Nat → Nat → Int → Int → Int → World → Prop) (m : Option Addr → Nat → Nat → Int → Int → Int → World → Nat), I t1p t1n t1c t5 t6 t7 w ∧
  ∀ (t1p : Option Addr) (t1n : Nat) (t1c : Nat) (t5 : Int) (t6 : Int) (t7 : Int) (w : World), I t1p t1n t1c t5 t6 t7 w →
  stopcockref03_More.b2 t1p t1n t1c t5 t6 t7 w R C1 (fun t1p' t1n' t1c' t5' t6' t7' w' => I t1p' t1n' t1c' t5' t6' t7' w' ∧ m t1p' t1n' t1c' t5' t6' t7' w' < m t1p t1n t1c t5 t6 t7 w)
def stopcockref03_More.b1 (t1p : Option Addr) (t1n : Nat) (t1c : Nat) (t5 : Int) (t6 : Int) (w : World) (R : Ending → World → Prop) (C1 : Option Addr → Nat → Nat → Int → Int → World → Prop) : Prop :=
  cond (decide (t6 < ((t1n : Nat) : Int))) (
    stopcockref03_More.l2 t1p t1n t1c t5 t6 7 w R C1) (
    R (.returned (Value.int .u32 (IntKind.u32.wrap (BitVec.ofInt IntKind.u32.bits t5 ^^^ BitVec.ofInt IntKind.u32.bits 4294967295).toNat))) w)
def stopcockref03_More.l1 (t1p : Option Addr) (t1n : Nat) (t1c : Nat) (t5 : Int) (t6 : Int) (w : World) (R : Ending → World → Prop) : Prop :=
  ∃ (I : Option Addr → Nat → Nat → Int → Int → World → Prop) (m : Option Addr → Nat → Nat → Int → Int → World → Nat), I t1p t1n t1c t5 t6 w ∧
  ∀ (t1p : Option Addr) (t1n : Nat) (t1c : Nat) (t5 : Int) (t6 : Int) (w : World), I t1p t1n t1c t5 t6 w →
  stopcockref03_More.b1 t1p t1n t1c t5 t6 w R (fun t1p' t1n' t1c' t5' t6' w' => I t1p' t1n' t1c' t5' t6' w' ∧ m t1p' t1n' t1c' t5' t6' w' < m t1p t1n t1c t5 t6 w)
def stopcockref03_More.main (a0 : Int) (a1p : Option Addr) (a1n : Nat) (a1c : Nat) (w : World) (R : Ending → World → Prop) : Prop :=
  stopcockref03_More.l1 a1p a1n a1c (IntKind.u32.wrap (BitVec.ofInt IntKind.u32.bits a0 ^^^ BitVec.ofInt IntKind.u32.bits 4294967295).toNat) 0 w R
abbrev stopcockref03_More.C (a0 : Int) (a1p : Option Addr) (a1n : Nat) (a1c : Nat) (w : World) (R : Ending → World → Prop) : Prop := Calls Try.prog 59 #[(Value.int .u32 a0), (Value.slice a1p a1n a1c)] w R
noncomputable def stopcockref03_More.code : Code := (Try.f59.body).getD .skip
noncomputable def stopcockref03_More.sk (R : Ending → World → Prop) : Sk := (.seq .leaf (.seq .leaf (.seq (.seq .leaf (.block (.loop [(1, .slice), (5, .int .u32), (6, .int .i64)] (fun (t1p : Option Addr) (t1n : Nat) (t1c : Nat) (t5 : Int) (t6 : Int) (w : World) => stopcockref03_More.l1 t1p t1n t1c t5 t6 w R) (fun (C1 : Option Addr → Nat → Nat → Int → Int → World → Prop) => (.seq .leaf (.seq (.block (.seq .leaf (.block (.loop [(1, .slice), (5, .int .u32), (6, .int .i64), (7, .int .i64)] (fun (t1p : Option Addr) (t1n : Nat) (t1c : Nat) (t5 : Int) (t6 : Int) (t7 : Int) (w : World) => stopcockref03_More.l2 t1p t1n t1c t5 t6 t7 w R C1) (fun (C2 : Option Addr → Nat → Nat → Int → Int → Int → World → Prop) => .leaf))))) .leaf)))))) .leaf)))
def stopcockref03_More.owed (R : Ending → World → Prop) : Prop :=
  (∀ (t1p : Option Addr) (t1n : Nat) (t1c : Nat) (t5 : Int) (t6 : Int) (w : World), stopcockref03_More.l1 t1p t1n t1c t5 t6 w R → stopcockref03_More.l1 t1p t1n t1c t5 t6 w R) ∧ (∀ (C1 : Option Addr → Nat → Nat → Int → Int → World → Prop), (∀ (t1p : Option Addr) (t1n : Nat) (t1c : Nat) (t5 : Int) (t6 : Int) (t7 : Int) (w : World), stopcockref03_More.l2 t1p t1n t1c t5 t6 t7 w R C1 → stopcockref03_More.l2 t1p t1n t1c t5 t6 t7 w R C1) ∧ (∀ (C2 : Option Addr → Nat → Nat → Int → Int → Int → World → Prop), True) ∧ True) ∧ True
theorem stopcockref03_More.pays (R : Ending → World → Prop) : stopcockref03_More.owed R := ⟨(fun _ _ _ _ _ _ h => h), (fun _ => ⟨(fun _ _ _ _ _ _ _ h => h), (fun _ => trivial), trivial⟩), trivial⟩
set_option maxRecDepth 100000 in
theorem stopcockref03_More.ok {a0 : Int} {a1p : Option Addr} {a1n : Nat} {a1c : Nat} {w : World} {R : Ending → World → Prop} (h : stopcockref03_More.main a0 a1p a1n a1c w R) : stopcockref03_More.C a0 a1p a1n a1c w R :=
  ev_ok cxok (c := cx) Try.func59 (code := stopcockref03_More.code) (by kernel_rfl) [.tmp 4] (by kernel_rfl) 40 (by kernel_rfl) (stopcockref03_More.sk R) (args := [(Value.int .u32 a0), (Value.slice a1p a1n a1c)]) (Nat.le_of_ble_eq_true rfl) (by kernel_rfl) (o := stopcockref03_More.owed R) (by kernel_rfl) (stopcockref03_More.pays R) h

/-! ### stopcock/plat.Check: function 60 -/
def plat_Check.main (a0_0 : Int) (a0_1 : Int) (w : World) (R : Ending → World → Prop) : Prop :=
  newP w #[(Value.int .i64 a0_0), (Value.int .i64 a0_1)] 31 fun b1 w1 =>
  ∃ (x1 : Int), w1.cell? (⟨b1, 0, none⟩ : Addr) = some (Value.int .i64 x1) ∧
  (cond (decide (x1 < 6)) (
      R (.returned (Value.int .i64 1)) w1) (
      ∃ (x2 : Int), w1.cell? (⟨b1, 0, none⟩ : Addr) = some (Value.int .i64 x2) ∧
      (cond (decide (x2 > 24)) (
          R (.returned (Value.int .i64 1)) w1) (
          ∃ (x3 : Int), w1.cell? (⟨b1, 1, none⟩ : Addr) = some (Value.int .i64 x3) ∧
          (cond (decide (x3 < 2)) (
              R (.returned (Value.int .i64 1)) w1) (
              ∃ (x4 : Int), w1.cell? (⟨b1, 1, none⟩ : Addr) = some (Value.int .i64 x4) ∧
              (cond (decide (x4 > 16)) (
                  R (.returned (Value.int .i64 1)) w1) (
                  R (.returned (Value.int .i64 0)) w1))))))))
abbrev plat_Check.C (a0_0 : Int) (a0_1 : Int) (w : World) (R : Ending → World → Prop) : Prop := Calls Try.prog 60 #[(Value.agg #[(Value.int .i64 a0_0), (Value.int .i64 a0_1)])] w R
noncomputable def plat_Check.code : Code := (Try.f60.body).getD .skip
noncomputable def plat_Check.sk (R : Ending → World → Prop) : Sk := .leaf
def plat_Check.owed (R : Ending → World → Prop) : Prop :=
  True
theorem plat_Check.pays (R : Ending → World → Prop) : plat_Check.owed R := trivial
set_option maxRecDepth 100000 in
theorem plat_Check.ok {a0_0 : Int} {a0_1 : Int} {w : World} {R : Ending → World → Prop} (h : plat_Check.main a0_0 a0_1 w R) : plat_Check.C a0_0 a0_1 w R :=
  ev_ok cxok (c := cx) Try.func60 (code := plat_Check.code) (by kernel_rfl) [.tmp 2] (by kernel_rfl) 21 (by kernel_rfl) (plat_Check.sk R) (args := [(Value.agg #[(Value.int .i64 a0_0), (Value.int .i64 a0_1)])]) (Nat.le_of_ble_eq_true rfl) (by kernel_rfl) (o := plat_Check.owed R) (by kernel_rfl) (plat_Check.pays R) h

/-! ### stopcock/delta.Sound: function 61 -/
def delta_Sound.b1 (t1 : Nat) (t7 : Array Value) (t8 : Int) (w : World) (R : Ending → World → Prop) (C1 : Nat → Array Value → Int → World → Prop) : Prop :=
  cond (decide (t8 < 8)) (
    chk (decide (0 ≤ t8)) (
      chk (decide (t8 < (8 : Int))) (
        newP w #[(Value.int .i64 0), (Value.int .i64 0)] 24 fun b2 w2 =>
        chk (decide ((t7.extract (t8.toNat * 2) ((t8.toNat * 2) + 2)).size = 2)) (
          Wr w2 (⟨b2, 0, none⟩ : Addr) ((t7.extract (t8.toNat * 2) ((t8.toNat * 2) + 2)).toList) ∧ ∀ w3, w3 = w2.setCells (⟨b2, 0, none⟩ : Addr).block (⟨b2, 0, none⟩ : Addr).off ((t7.extract (t8.toNat * 2) ((t8.toNat * 2) + 2)).toList) →
          (chk (decide (0 ≤ t8)) (
              chk (decide (t8 < (8 : Int))) (
                ∃ (p1 : Option Addr) (n1 : Nat) (c1 : Nat), w3.cell? ((⟨t1, 16, none⟩ : Addr).add (t8.toNat * 1)) = some (Value.slice p1 n1 c1) ∧
                (∃ (x1 : Int), w3.cell? (⟨b2, 1, none⟩ : Addr) = some (Value.int .i64 x1) ∧
                  (cond (((n1 : Nat) : Int) != x1) (
                      R (.returned (Value.bool false)) w3) (
                      ∃ (x2 : Int), w3.cell? (⟨b2, 0, none⟩ : Addr) = some (Value.int .i64 x2) ∧
                      (cond (x2 == 0) (
                          ∃ (x3 : Int), w3.cell? (⟨b2, 1, none⟩ : Addr) = some (Value.int .i64 x3) ∧
                          (cond (x3 != 0) (
                          R (.returned (Value.bool false)) w3) (
                          ∃ (x4 : Int), w3.cell? (⟨b2, 0, none⟩ : Addr) = some (Value.int .i64 x4) ∧
                          (callP Try.prog 74 #[(Value.int .i64 x4), (Value.int .i64 0), (Value.int .i64 3)] w3 (fun v1 w4 =>
                          dB v1 fun b3 =>
                          cond (!b3) (
                          R (.returned (Value.bool false)) w4) (
                          ∃ (x5 : Int), w4.cell? (⟨b2, 0, none⟩ : Addr) = some (Value.int .i64 x5) ∧
                          (cond (x5 != 0) (
                          ∃ (x6 : Int), w4.cell? (⟨b2, 1, none⟩ : Addr) = some (Value.int .i64 x6) ∧
                          (callP Try.prog 74 #[(Value.int .i64 x6), (Value.int .i64 1), (Value.int .i64 33)] w4 (fun v2 w6 =>
                          dB v2 fun b4 =>
                          cond (!b4) (
                          R (.returned (Value.bool false)) w6) (
                          callP Try.prog 62 #[(Value.slice p1 n1 c1), (Value.func (.func 75) #[] #[])] w6 (fun v5 w12 =>
                          dB v5 fun b7 =>
                          cond b7 (
                          R (.returned (Value.bool false)) w12) (
                          C1 t1 t7 (IntKind.i64.wrap (t8 + 1)) w12)) (fun ch w13 => R (.panicked ch) w13))) (fun ch w7 => R (.panicked ch) w7))) (
                          callP Try.prog 62 #[(Value.slice p1 n1 c1), (Value.func (.func 75) #[] #[])] w4 (fun v6 w14 =>
                          dB v6 fun b8 =>
                          cond b8 (
                          R (.returned (Value.bool false)) w14) (
                          C1 t1 t7 (IntKind.i64.wrap (t8 + 1)) w14)) (fun ch w15 => R (.panicked ch) w15))))) (fun ch w5 => R (.panicked ch) w5))))) (
                          ∃ (x7 : Int), w3.cell? (⟨b2, 0, none⟩ : Addr) = some (Value.int .i64 x7) ∧
                          (callP Try.prog 74 #[(Value.int .i64 x7), (Value.int .i64 0), (Value.int .i64 3)] w3 (fun v3 w8 =>
                          dB v3 fun b5 =>
                          cond (!b5) (
                          R (.returned (Value.bool false)) w8) (
                          ∃ (x8 : Int), w8.cell? (⟨b2, 0, none⟩ : Addr) = some (Value.int .i64 x8) ∧
                          (cond (x8 != 0) (
                          ∃ (x9 : Int), w8.cell? (⟨b2, 1, none⟩ : Addr) = some (Value.int .i64 x9) ∧
                          (callP Try.prog 74 #[(Value.int .i64 x9), (Value.int .i64 1), (Value.int .i64 33)] w8 (fun v4 w10 =>
                          dB v4 fun b6 =>
                          cond (!b6) (
                          R (.returned (Value.bool false)) w10) (
                          callP Try.prog 62 #[(Value.slice p1 n1 c1), (Value.func (.func 75) #[] #[])] w10 (fun v7 w16 =>
                          dB v7 fun b9 =>
                          cond b9 (
                          R (.returned (Value.bool false)) w16) (
                          C1 t1 t7 (IntKind.i64.wrap (t8 + 1)) w16)) (fun ch w17 => R (.panicked ch) w17))) (fun ch w11 => R (.panicked ch) w11))) (
                          callP Try.prog 62 #[(Value.slice p1 n1 c1), (Value.func (.func 75) #[] #[])] w8 (fun v8 w18 =>
                          dB v8 fun b10 =>
                          cond b10 (
                          R (.returned (Value.bool false)) w18) (
                          C1 t1 t7 (IntKind.i64.wrap (t8 + 1)) w18)) (fun ch w19 => R (.panicked ch) w19))))) (fun ch w9 => R (.panicked ch) w9)))))))))))))) (
    R (.returned (Value.bool true)) w)
def delta_Sound.l1 (t1 : Nat) (t7 : Array Value) (t8 : Int) (w : World) (R : Ending → World → Prop) : Prop :=
  ∃ (I : Nat → Array Value → Int → World → Prop) (m : Nat → Array Value → Int → World → Nat), I t1 t7 t8 w ∧
  ∀ (t1 : Nat) (t7 : Array Value) (t8 : Int) (w : World), I t1 t7 t8 w →
  delta_Sound.b1 t1 t7 t8 w R (fun t1' t7' t8' w' => I t1' t7' t8' w' ∧ m t1' t7' t8' w' < m t1 t7 t8 w)
def delta_Sound.main (a0 : Array Value) (w : World) (R : Ending → World → Prop) : Prop :=
  newP w a0 29 fun b1 w1 =>
  ∃ (cs1 : Array Value), cs1.size = 16 ∧ CellsAt w1 (⟨b1, 0, none⟩ : Addr) cs1.toList ∧
  (delta_Sound.l1 b1 cs1 0 w1 R)
abbrev delta_Sound.C (a0 : Array Value) (w : World) (R : Ending → World → Prop) : Prop := Calls Try.prog 61 #[(Value.agg a0)] w R
noncomputable def delta_Sound.code : Code := (Try.f61.body).getD .skip
noncomputable def delta_Sound.sk (R : Ending → World → Prop) : Sk := (.seq .leaf (.seq (.seq .leaf (.block (.loop [(1, .blk), (7, .agg), (8, .int .i64)] (fun (t1 : Nat) (t7 : Array Value) (t8 : Int) (w : World) => delta_Sound.l1 t1 t7 t8 w R) (fun (C1 : Nat → Array Value → Int → World → Prop) => .leaf)))) .leaf))
def delta_Sound.owed (R : Ending → World → Prop) : Prop :=
  (∀ (t1 : Nat) (t7 : Array Value) (t8 : Int) (w : World), delta_Sound.l1 t1 t7 t8 w R → delta_Sound.l1 t1 t7 t8 w R) ∧ (∀ (C1 : Nat → Array Value → Int → World → Prop), True) ∧ True
theorem delta_Sound.pays (R : Ending → World → Prop) : delta_Sound.owed R := ⟨(fun _ _ _ _ h => h), (fun _ => trivial), trivial⟩
set_option maxRecDepth 100000 in
theorem delta_Sound.ok {a0 : Array Value} {w : World} {R : Ending → World → Prop} (h : delta_Sound.main a0 w R) : delta_Sound.C a0 w R :=
  ev_ok cxok (c := cx) Try.func61 (code := delta_Sound.code) (by kernel_rfl) [.tmp 2] (by kernel_rfl) 51 (by kernel_rfl) (delta_Sound.sk R) (args := [(Value.agg a0)]) (Nat.le_of_ble_eq_true rfl) (by kernel_rfl) (o := delta_Sound.owed R) (by kernel_rfl) (delta_Sound.pays R) h

/-! ### slices.ContainsFunc[[]complex128,complex128]: function 62 -/
def slices_ContainsFunc_complex128_complex128.main (a0p : Option Addr) (a0n : Nat) (a0c : Nat) (a1 : Value) (w : World) (R : Ending → World → Prop) : Prop :=
  callP Try.prog 77 #[(Value.slice a0p a0n a0c), a1] w (fun v1 w1 =>
    dI .i64 v1 fun x1 =>
    R (.returned (Value.bool (decide (x1 ≥ 0)))) w1) (fun ch w2 => R (.panicked ch) w2)
abbrev slices_ContainsFunc_complex128_complex128.C (a0p : Option Addr) (a0n : Nat) (a0c : Nat) (a1 : Value) (w : World) (R : Ending → World → Prop) : Prop := Calls Try.prog 62 #[(Value.slice a0p a0n a0c), a1] w R
noncomputable def slices_ContainsFunc_complex128_complex128.code : Code := (Try.f62.body).getD .skip
noncomputable def slices_ContainsFunc_complex128_complex128.sk (R : Ending → World → Prop) : Sk := .leaf
def slices_ContainsFunc_complex128_complex128.owed (R : Ending → World → Prop) : Prop :=
  True
theorem slices_ContainsFunc_complex128_complex128.pays (R : Ending → World → Prop) : slices_ContainsFunc_complex128_complex128.owed R := trivial
set_option maxRecDepth 100000 in
theorem slices_ContainsFunc_complex128_complex128.ok {a0p : Option Addr} {a0n : Nat} {a0c : Nat} {a1 : Value} {w : World} {R : Ending → World → Prop} (h : slices_ContainsFunc_complex128_complex128.main a0p a0n a0c a1 w R) : slices_ContainsFunc_complex128_complex128.C a0p a0n a0c a1 w R :=
  ev_ok cxok (c := cx) Try.func62 (code := slices_ContainsFunc_complex128_complex128.code) (by kernel_rfl) [.tmp 4] (by kernel_rfl) 9 (by kernel_rfl) (slices_ContainsFunc_complex128_complex128.sk R) (args := [(Value.slice a0p a0n a0c), a1]) (Nat.le_of_ble_eq_true rfl) (by kernel_rfl) (o := slices_ContainsFunc_complex128_complex128.owed R) (by kernel_rfl) (slices_ContainsFunc_complex128_complex128.pays R) h

/-! ### stopcock/owner.Within$1: function 63 -/
def owner_Within_1.main (a0r : Nat) (a0m : Nat) (q0 : Nat) (w : World) (R : Ending → World → Prop) : Prop :=
  ∃ (cs1 : Array Value), cs1.size = 2 ∧ CellsAt w (⟨q0, 0, none⟩ : Addr) cs1.toList ∧
  (callP Try.prog 64 #[(Value.agg cs1), (Value.complex .f64 a0r a0m)] w (fun v1 w1 =>
      dT v1 fun vs1 =>
      optP (vs1[0]?) fun v2 =>
      dI .i64 v2 fun x1 =>
      optP (vs1[1]?) fun v3 =>
      dI .i64 v3 fun x2 =>
      cond (!(fCmp .eql a0r 13830554455654793216 && fCmp .eql a0m 0)) (
        R (.returned (Value.bool (x2 != 0))) w1) (
        R (.returned (Value.bool false)) w1)) (fun ch w2 => R (.panicked ch) w2))
abbrev owner_Within_1.C (a0r : Nat) (a0m : Nat) (q0 : Nat) (w : World) (R : Ending → World → Prop) : Prop := Calls Try.prog 63 #[(Value.complex .f64 a0r a0m), (Value.pointer (some (⟨q0, 0, none⟩ : Addr)))] w R
noncomputable def owner_Within_1.code : Code := (Try.f63.body).getD .skip
noncomputable def owner_Within_1.sk (R : Ending → World → Prop) : Sk := .leaf
def owner_Within_1.owed (R : Ending → World → Prop) : Prop :=
  True
theorem owner_Within_1.pays (R : Ending → World → Prop) : owner_Within_1.owed R := trivial
set_option maxRecDepth 100000 in
theorem owner_Within_1.ok {a0r : Nat} {a0m : Nat} {q0 : Nat} {w : World} {R : Ending → World → Prop} (h : owner_Within_1.main a0r a0m q0 w R) : owner_Within_1.C a0r a0m q0 w R :=
  ev_ok cxok (c := cx) Try.func63 (code := owner_Within_1.code) (by kernel_rfl) [.tmp 3] (by kernel_rfl) 18 (by kernel_rfl) (owner_Within_1.sk R) (args := [(Value.complex .f64 a0r a0m), (Value.pointer (some (⟨q0, 0, none⟩ : Addr)))]) (Nat.le_of_ble_eq_true rfl) (by kernel_rfl) (o := owner_Within_1.owed R) (by kernel_rfl) (owner_Within_1.pays R) h

/-! ### stopcock/plat.At: function 64 -/
def plat_At.main (a0_0 : Int) (a0_1 : Int) (a1r : Nat) (a1m : Nat) (w : World) (R : Ending → World → Prop) : Prop :=
  newP w #[(Value.int .i64 a0_0), (Value.int .i64 a0_1)] 31 fun b1 w1 =>
  ∃ (cs1 : Array Value), cs1.size = 2 ∧ CellsAt w1 (⟨b1, 0, none⟩ : Addr) cs1.toList ∧
  (callP Try.prog 60 #[(Value.agg cs1)] w1 (fun v1 w2 =>
      dI .i64 v1 fun x1 =>
      cond (x1 != 0) (
        R (.returned (Value.tuple #[(Value.int .i64 0), (Value.int .i64 x1)])) w2) (
        ∃ (x2 : Int), w2.cell? (⟨b1, 1, none⟩ : Addr) = some (Value.int .i64 x2) ∧
        (callP Try.prog 50 #[(Value.complex .f64 a1r a1m), (Value.int .i64 x2)] w2 (fun v2 w4 =>
            dT v2 fun vs1 =>
            optP (vs1[0]?) fun v3 =>
            dI .i64 v3 fun x3 =>
            optP (vs1[1]?) fun v4 =>
            dI .i64 v4 fun x4 =>
            cond (x4 != 0) (
              R (.returned (Value.tuple #[(Value.int .i64 0), (Value.int .i64 x4)])) w4) (
              ∃ (x5 : Int), w4.cell? (⟨b1, 0, none⟩ : Addr) = some (Value.int .i64 x5) ∧
              (∃ (x6 : Int), w4.cell? (⟨b1, 1, none⟩ : Addr) = some (Value.int .i64 x6) ∧
                (cond (decide (x3 ≥ (IntKind.i64.wrap (x5 * x6)))) (
                    R (.returned (Value.tuple #[(Value.int .i64 0), (Value.int .i64 5)])) w4) (
                    R (.returned (Value.tuple #[(Value.int .i64 (IntKind.i64.wrap (40 + x3))), (Value.int .i64 0)])) w4))))) (fun ch w5 => R (.panicked ch) w5)))) (fun ch w3 => R (.panicked ch) w3))
abbrev plat_At.C (a0_0 : Int) (a0_1 : Int) (a1r : Nat) (a1m : Nat) (w : World) (R : Ending → World → Prop) : Prop := Calls Try.prog 64 #[(Value.agg #[(Value.int .i64 a0_0), (Value.int .i64 a0_1)]), (Value.complex .f64 a1r a1m)] w R
noncomputable def plat_At.code : Code := (Try.f64.body).getD .skip
noncomputable def plat_At.sk (R : Ending → World → Prop) : Sk := .leaf
def plat_At.owed (R : Ending → World → Prop) : Prop :=
  True
theorem plat_At.pays (R : Ending → World → Prop) : plat_At.owed R := trivial
set_option maxRecDepth 100000 in
theorem plat_At.ok {a0_0 : Int} {a0_1 : Int} {a1r : Nat} {a1m : Nat} {w : World} {R : Ending → World → Prop} (h : plat_At.main a0_0 a0_1 a1r a1m w R) : plat_At.C a0_0 a0_1 a1r a1m w R :=
  ev_ok cxok (c := cx) Try.func64 (code := plat_At.code) (by kernel_rfl) [.tmp 4, .tmp 5] (by kernel_rfl) 35 (by kernel_rfl) (plat_At.sk R) (args := [(Value.agg #[(Value.int .i64 a0_0), (Value.int .i64 a0_1)]), (Value.complex .f64 a1r a1m)]) (Nat.le_of_ble_eq_true rfl) (by kernel_rfl) (o := plat_At.owed R) (by kernel_rfl) (plat_At.pays R) h

/-! ### stopcock/axis.Parts: function 65 -/
def axis_Parts.main (a0r : Nat) (a0m : Nat) (w : World) (R : Ending → World → Prop) : Prop :=
  callP Try.prog 76 #[(Value.complex .f64 a0r a0m)] w (fun v1 w1 =>
    dB v1 fun b1 =>
    cond (!b1) (
      R (.returned (Value.tuple #[(Value.int .i64 0), (Value.int .i64 0), (Value.int .i64 2)])) w1) (
      optP ((FloatKind.f64.decode a0r).toInt .zero) fun x1 =>
      chk (decide (IntKind.i64.min ≤ x1)) (
        chk (decide (x1 ≤ IntKind.i64.max)) (
          optP ((FloatKind.f64.decode a0m).toInt .zero) fun x2 =>
          chk (decide (IntKind.i64.min ≤ x2)) (
            chk (decide (x2 ≤ IntKind.i64.max)) (
              R (.returned (Value.tuple #[(Value.int .i64 x1), (Value.int .i64 x2), (Value.int .i64 0)])) w1)))))) (fun ch w2 => R (.panicked ch) w2)
abbrev axis_Parts.C (a0r : Nat) (a0m : Nat) (w : World) (R : Ending → World → Prop) : Prop := Calls Try.prog 65 #[(Value.complex .f64 a0r a0m)] w R
noncomputable def axis_Parts.code : Code := (Try.f65.body).getD .skip
noncomputable def axis_Parts.sk (R : Ending → World → Prop) : Sk := .leaf
def axis_Parts.owed (R : Ending → World → Prop) : Prop :=
  True
theorem axis_Parts.pays (R : Ending → World → Prop) : axis_Parts.owed R := trivial
set_option maxRecDepth 100000 in
theorem axis_Parts.ok {a0r : Nat} {a0m : Nat} {w : World} {R : Ending → World → Prop} (h : axis_Parts.main a0r a0m w R) : axis_Parts.C a0r a0m w R :=
  ev_ok cxok (c := cx) Try.func65 (code := axis_Parts.code) (by kernel_rfl) [.tmp 2, .tmp 3, .tmp 4] (by kernel_rfl) 14 (by kernel_rfl) (axis_Parts.sk R) (args := [(Value.complex .f64 a0r a0m)]) (Nat.le_of_ble_eq_true rfl) (by kernel_rfl) (o := axis_Parts.owed R) (by kernel_rfl) (axis_Parts.pays R) h

/-! ### stopcock/cell.put: function 66 -/
def cell_put.b1 (t0p : Option Addr) (t0n : Nat) (t0c : Nat) (t2 : Int) (t8 : Int) (w : World) (R : Ending → World → Prop) (C1 : Option Addr → Nat → Nat → Int → Int → World → Prop) : Prop :=
  cond (decide (t8 ≥ 0)) (
    chk (decide (0 ≤ (IntKind.i64.wrap (8 * t8)))) (
      newP w #[(Value.int .u8 (IntKind.u8.wrap (Int.fdiv t2 (2 ^ (min (IntKind.i64.wrap (8 * t8)).toNat IntKind.i64.bits)))))] 5 fun b1 w1 =>
      appP w1 t0p t0n t0c 1 (CellsO w1 (some ⟨b1, 0, none⟩)) 5 1 1 #[(Value.int .u8 0)] fun p1 c1 w2 =>
      C1 p1 (t0n + 1) c1 t2 (IntKind.i64.wrap (t8 - 1)) w2)) (
    R (.returned (Value.tuple #[(Value.slice t0p t0n t0c), (Value.int .i64 0)])) w)
def cell_put.l1 (t0p : Option Addr) (t0n : Nat) (t0c : Nat) (t2 : Int) (t8 : Int) (w : World) (R : Ending → World → Prop) : Prop :=
  ∃ (I : Option Addr → Nat → Nat → Int → Int → World → Prop) (m : Option Addr → Nat → Nat → Int → Int → World → Nat), I t0p t0n t0c t2 t8 w ∧
  ∀ (t0p : Option Addr) (t0n : Nat) (t0c : Nat) (t2 : Int) (t8 : Int) (w : World), I t0p t0n t0c t2 t8 w →
  cell_put.b1 t0p t0n t0c t2 t8 w R (fun t0p' t0n' t0c' t2' t8' w' => I t0p' t0n' t0c' t2' t8' w' ∧ m t0p' t0n' t0c' t2' t8' w' < m t0p t0n t0c t2 t8 w)
def cell_put.main (a0p : Option Addr) (a0n : Nat) (a0c : Nat) (a1 : Int) (a2 : Int) (w : World) (R : Ending → World → Prop) : Prop :=
  cond (decide (a2 < 0)) (
    R (.returned (Value.tuple #[(Value.slice none 0 0), (Value.int .i64 5)])) w) (
    chk (decide (0 ≤ (IntKind.i64.wrap (8 * a1)))) (
      cond ((Int.fdiv a2 (2 ^ (min (IntKind.i64.wrap (8 * a1)).toNat IntKind.i64.bits))) != 0) (
        R (.returned (Value.tuple #[(Value.slice none 0 0), (Value.int .i64 5)])) w) (
        cell_put.l1 a0p a0n a0c a2 (IntKind.i64.wrap (a1 - 1)) w R)))
abbrev cell_put.C (a0p : Option Addr) (a0n : Nat) (a0c : Nat) (a1 : Int) (a2 : Int) (w : World) (R : Ending → World → Prop) : Prop := Calls Try.prog 66 #[(Value.slice a0p a0n a0c), (Value.int .i64 a1), (Value.int .i64 a2)] w R
noncomputable def cell_put.code : Code := (Try.f66.body).getD .skip
noncomputable def cell_put.sk (R : Ending → World → Prop) : Sk := (.seq .leaf (.seq .leaf (.seq (.seq .leaf (.block (.loop [(0, .slice), (2, .int .i64), (8, .int .i64)] (fun (t0p : Option Addr) (t0n : Nat) (t0c : Nat) (t2 : Int) (t8 : Int) (w : World) => cell_put.l1 t0p t0n t0c t2 t8 w R) (fun (C1 : Option Addr → Nat → Nat → Int → Int → World → Prop) => .leaf)))) .leaf)))
def cell_put.owed (R : Ending → World → Prop) : Prop :=
  (∀ (t0p : Option Addr) (t0n : Nat) (t0c : Nat) (t2 : Int) (t8 : Int) (w : World), cell_put.l1 t0p t0n t0c t2 t8 w R → cell_put.l1 t0p t0n t0c t2 t8 w R) ∧ (∀ (C1 : Option Addr → Nat → Nat → Int → Int → World → Prop), True) ∧ True
theorem cell_put.pays (R : Ending → World → Prop) : cell_put.owed R := ⟨(fun _ _ _ _ _ _ h => h), (fun _ => trivial), trivial⟩
set_option maxRecDepth 100000 in
theorem cell_put.ok {a0p : Option Addr} {a0n : Nat} {a0c : Nat} {a1 : Int} {a2 : Int} {w : World} {R : Ending → World → Prop} (h : cell_put.main a0p a0n a0c a1 a2 w R) : cell_put.C a0p a0n a0c a1 a2 w R :=
  ev_ok cxok (c := cx) Try.func66 (code := cell_put.code) (by kernel_rfl) [.tmp 6, .tmp 7] (by kernel_rfl) 33 (by kernel_rfl) (cell_put.sk R) (args := [(Value.slice a0p a0n a0c), (Value.int .i64 a1), (Value.int .i64 a2)]) (Nat.le_of_ble_eq_true rfl) (by kernel_rfl) (o := cell_put.owed R) (by kernel_rfl) (cell_put.pays R) h

end Go.Proofs.Ytokepljpieboiaa.G

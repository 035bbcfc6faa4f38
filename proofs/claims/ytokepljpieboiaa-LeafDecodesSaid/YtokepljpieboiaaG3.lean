/- Statements of functions, and that their calls do what they say. Printed by wip/tool/dec.py. Conditions: none. -/
import Derived.Test.YtokepljpieboiaaG0
namespace Go.Proofs.Ytokepljpieboiaa.G
open Go.Dec
set_option linter.unusedVariables false

/-! ### stopcock/leaf.put: function 34 -/
def leaf_put.main (a0p : Option Addr) (a0n : Nat) (a0c : Nat) (a1 : Int) (a2p : Option Addr) (a2n : Nat) (a2c : Nat) (w : World) (R : Ending → World → Prop) : Prop :=
  callP Try.prog 52 #[(Value.int .i64 a1), (Value.slice a2p a2n a2c)] w (fun v1 w1 =>
    dT v1 fun vs1 =>
    optP (vs1[0]?) fun v2 =>
    dS v2 fun p1 n1 c1 =>
    optP (vs1[1]?) fun v3 =>
    dI .i64 v3 fun x1 =>
    appP w1 a0p a0n a0c n1 (CellsO w1 p1) 5 1 1 #[(Value.int .u8 0)] fun p2 c2 w3 =>
    R (.returned (Value.slice p2 (a0n + n1) c2)) w3) (fun ch w2 => R (.panicked ch) w2)
abbrev leaf_put.C (a0p : Option Addr) (a0n : Nat) (a0c : Nat) (a1 : Int) (a2p : Option Addr) (a2n : Nat) (a2c : Nat) (w : World) (R : Ending → World → Prop) : Prop := Calls Try.prog 34 #[(Value.slice a0p a0n a0c), (Value.int .i64 a1), (Value.slice a2p a2n a2c)] w R
noncomputable def leaf_put.code : Code := (Try.f34.body).getD .skip
noncomputable def leaf_put.sk (R : Ending → World → Prop) : Sk := .leaf
def leaf_put.owed (R : Ending → World → Prop) : Prop :=
  True
theorem leaf_put.pays (R : Ending → World → Prop) : leaf_put.owed R := trivial
set_option maxRecDepth 100000 in
theorem leaf_put.ok {a0p : Option Addr} {a0n : Nat} {a0c : Nat} {a1 : Int} {a2p : Option Addr} {a2n : Nat} {a2c : Nat} {w : World} {R : Ending → World → Prop} (h : leaf_put.main a0p a0n a0c a1 a2p a2n a2c w R) : leaf_put.C a0p a0n a0c a1 a2p a2n a2c w R :=
  ev_ok cxok (c := cx) Try.func34 (code := leaf_put.code) (by kernel_rfl) [.tmp 6] (by kernel_rfl) 18 (by kernel_rfl) (leaf_put.sk R) (args := [(Value.slice a0p a0n a0c), (Value.int .i64 a1), (Value.slice a2p a2n a2c)]) (Nat.le_of_ble_eq_true rfl) (by kernel_rfl) (o := leaf_put.owed R) (by kernel_rfl) (leaf_put.pays R) h

/-! ### stopcock/seal.Sum: function 35 -/
def seal_Sum.main (a0p : Option Addr) (a0n : Nat) (a0c : Nat) (w : World) (R : Ending → World → Prop) : Prop :=
  callP Try.prog 53 #[(Value.int .u32 0), (Value.slice a0p a0n a0c)] w (fun v1 w1 =>
    dI .u32 v1 fun x1 =>
    R (.returned (Value.int .u32 x1)) w1) (fun ch w2 => R (.panicked ch) w2)
abbrev seal_Sum.C (a0p : Option Addr) (a0n : Nat) (a0c : Nat) (w : World) (R : Ending → World → Prop) : Prop := Calls Try.prog 35 #[(Value.slice a0p a0n a0c)] w R
noncomputable def seal_Sum.code : Code := (Try.f35.body).getD .skip
noncomputable def seal_Sum.sk (R : Ending → World → Prop) : Sk := .leaf
def seal_Sum.owed (R : Ending → World → Prop) : Prop :=
  True
theorem seal_Sum.pays (R : Ending → World → Prop) : seal_Sum.owed R := trivial
set_option maxRecDepth 100000 in
theorem seal_Sum.ok {a0p : Option Addr} {a0n : Nat} {a0c : Nat} {w : World} {R : Ending → World → Prop} (h : seal_Sum.main a0p a0n a0c w R) : seal_Sum.C a0p a0n a0c w R :=
  ev_ok cxok (c := cx) Try.func35 (code := seal_Sum.code) (by kernel_rfl) [.tmp 2] (by kernel_rfl) 5 (by kernel_rfl) (seal_Sum.sk R) (args := [(Value.slice a0p a0n a0c)]) (Nat.le_of_ble_eq_true rfl) (by kernel_rfl) (o := seal_Sum.owed R) (by kernel_rfl) (seal_Sum.pays R) h

/-! ### stopcock/stopcockref03.Close: function 36 -/
def stopcockref03_Close.k1 (t4p : Option Addr) (t4n : Nat) (t4c : Nat) (w : World) (R : Ending → World → Prop) : Prop :=
  callP Try.prog 42 #[(Value.slice t4p t4n t4c)] w (fun v1 w5 =>
    dI .u32 v1 fun x1 =>
    newP w5 #[(Value.int .u8 (IntKind.u8.wrap (Int.fdiv x1 (2 ^ (min 24 IntKind.u32.bits))))), (Value.int .u8 (IntKind.u8.wrap (Int.fdiv x1 (2 ^ (min 16 IntKind.u32.bits))))), (Value.int .u8 (IntKind.u8.wrap (Int.fdiv x1 (2 ^ (min 8 IntKind.u32.bits))))), (Value.int .u8 (IntKind.u8.wrap x1))] 5 fun b3 w7 =>
    appP w7 t4p t4n t4c 4 (CellsO w7 (some ⟨b3, 0, none⟩)) 5 1 1 #[(Value.int .u8 0)] fun p3 c3 w8 =>
    R (.returned (Value.tuple #[(Value.slice p3 (t4n + 4) c3), (Value.int .i64 0)])) w8) (fun ch w6 => R (.panicked ch) w6)
def stopcockref03_Close.b1 (t4p : Option Addr) (t4n : Nat) (t4c : Nat) (w : World) (R : Ending → World → Prop) (C1 : Option Addr → Nat → Nat → World → Prop) : Prop :=
  cond (decide (((t4n : Nat) : Int) < 60)) (
    newP w #[(Value.int .u8 0)] 5 fun b2 w3 =>
    appP w3 t4p t4n t4c 1 (CellsO w3 (some ⟨b2, 0, none⟩)) 5 1 1 #[(Value.int .u8 0)] fun p2 c2 w4 =>
    C1 p2 (t4n + 1) c2 w4) (
    stopcockref03_Close.k1 t4p t4n t4c w R)
def stopcockref03_Close.l1 (t4p : Option Addr) (t4n : Nat) (t4c : Nat) (w : World) (R : Ending → World → Prop) : Prop :=
  ∃ (I : Option Addr → Nat → Nat → World → Prop) (m : Option Addr → Nat → Nat → World → Nat), I t4p t4n t4c w ∧
  ∀ (t4p : Option Addr) (t4n : Nat) (t4c : Nat) (w : World), I t4p t4n t4c w →
  stopcockref03_Close.b1 t4p t4n t4c w R (fun t4p' t4n' t4c' w' => I t4p' t4n' t4c' w' ∧ m t4p' t4n' t4c' w' < m t4p t4n t4c w)
def stopcockref03_Close.main (a0p : Option Addr) (a0n : Nat) (a0c : Nat) (w : World) (R : Ending → World → Prop) : Prop :=
  cond (decide (((a0n : Nat) : Int) > 60)) (
    R (.returned (Value.tuple #[(Value.slice none 0 0), (Value.int .i64 6)])) w) (
    newP w #[] 5 fun b1 w1 =>
    appP w1 (some ⟨b1, 0, none⟩) 0 0 a0n (CellsO w1 a0p) 5 1 1 #[(Value.int .u8 0)] fun p1 c1 w2 =>
    stopcockref03_Close.l1 p1 (0 + a0n) c1 w2 R)
abbrev stopcockref03_Close.C (a0p : Option Addr) (a0n : Nat) (a0c : Nat) (w : World) (R : Ending → World → Prop) : Prop := Calls Try.prog 36 #[(Value.slice a0p a0n a0c)] w R
noncomputable def stopcockref03_Close.code : Code := (Try.f36.body).getD .skip
noncomputable def stopcockref03_Close.sk (R : Ending → World → Prop) : Sk := (.seq .leaf (.seq .leaf (.seq .leaf (.cut [(4, .slice)] (fun (t4p : Option Addr) (t4n : Nat) (t4c : Nat) (w : World) => stopcockref03_Close.k1 t4p t4n t4c w R) (.block (.loop [(4, .slice)] (fun (t4p : Option Addr) (t4n : Nat) (t4c : Nat) (w : World) => stopcockref03_Close.l1 t4p t4n t4c w R) (fun (C1 : Option Addr → Nat → Nat → World → Prop) => .leaf))) .leaf))))
def stopcockref03_Close.owed (R : Ending → World → Prop) : Prop :=
  (∀ (t4p : Option Addr) (t4n : Nat) (t4c : Nat) (w : World), stopcockref03_Close.l1 t4p t4n t4c w R → stopcockref03_Close.l1 t4p t4n t4c w R) ∧ (∀ (C1 : Option Addr → Nat → Nat → World → Prop), True) ∧ (∀ (t4p : Option Addr) (t4n : Nat) (t4c : Nat) (w : World), stopcockref03_Close.k1 t4p t4n t4c w R → stopcockref03_Close.k1 t4p t4n t4c w R) ∧ True
theorem stopcockref03_Close.pays (R : Ending → World → Prop) : stopcockref03_Close.owed R := ⟨(fun _ _ _ _ h => h), (fun _ => trivial), (fun _ _ _ _ h => h), trivial⟩
set_option maxRecDepth 100000 in
theorem stopcockref03_Close.ok {a0p : Option Addr} {a0n : Nat} {a0c : Nat} {w : World} {R : Ending → World → Prop} (h : stopcockref03_Close.main a0p a0n a0c w R) : stopcockref03_Close.C a0p a0n a0c w R :=
  ev_ok cxok (c := cx) Try.func36 (code := stopcockref03_Close.code) (by kernel_rfl) [.tmp 2, .tmp 3] (by kernel_rfl) 34 (by kernel_rfl) (stopcockref03_Close.sk R) (args := [(Value.slice a0p a0n a0c)]) (Nat.le_of_ble_eq_true rfl) (by kernel_rfl) (o := stopcockref03_Close.owed R) (by kernel_rfl) (stopcockref03_Close.pays R) h

/-! ### stopcock/stopcockref04.Get: function 37 -/
def stopcockref04_Get.b1 (t0p : Option Addr) (t0n : Nat) (t0c : Nat) (t1 : Int) (t2 : Int) (t8 : Int) (t9 : Int) (w : World) (R : Ending → World → Prop) (C1 : Option Addr → Nat → Nat → Int → Int → Int → Int → World → Prop) : Prop :=
  cond (decide (t9 < t2)) (
    chk (decide (0 ≤ (IntKind.i64.wrap (t1 + t9)))) (
      chk (decide ((IntKind.i64.wrap (t1 + t9)) < ((t0n : Nat) : Int))) (
        optP t0p fun d1 =>
        ∃ (x1 : Int), w.cell? (d1.add ((IntKind.i64.wrap (t1 + t9)).toNat * 1)) = some (Value.int .u8 x1) ∧
        (C1 t0p t0n t0c t1 t2 (IntKind.i64.wrap ((IntKind.i64.wrap (t8 * 256)) + (IntKind.i64.wrap x1))) (IntKind.i64.wrap (t9 + 1)) w)))) (
    R (.returned (Value.tuple #[(Value.int .i64 t8), (Value.int .i64 0)])) w)
def stopcockref04_Get.l1 (t0p : Option Addr) (t0n : Nat) (t0c : Nat) (t1 : Int) (t2 : Int) (t8 : Int) (t9 : Int) (w : World) (R : Ending → World → Prop) : Prop :=
  ∃ (I : Option Addr → Nat → Nat → Int → Int → Int → Int → World → Prop) (m : Option Addr → Nat → Nat → Int → Int → Int → Int → World → Nat), I t0p t0n t0c t1 t2 t8 t9 w ∧
  ∀ (t0p : Option Addr) (t0n : Nat) (t0c : Nat) (t1 : Int) (t2 : Int) (t8 : Int) (t9 : Int) (w : World), I t0p t0n t0c t1 t2 t8 t9 w →
  stopcockref04_Get.b1 t0p t0n t0c t1 t2 t8 t9 w R (fun t0p' t0n' t0c' t1' t2' t8' t9' w' => I t0p' t0n' t0c' t1' t2' t8' t9' w' ∧ m t0p' t0n' t0c' t1' t2' t8' t9' w' < m t0p t0n t0c t1 t2 t8 t9 w)
def stopcockref04_Get.main (a0p : Option Addr) (a0n : Nat) (a0c : Nat) (a1 : Int) (a2 : Int) (w : World) (R : Ending → World → Prop) : Prop :=
  cond (decide (a2 < 1)) (
    R (.returned (Value.tuple #[(Value.int .i64 0), (Value.int .i64 1)])) w) (
    cond (decide (a2 > 4)) (
      R (.returned (Value.tuple #[(Value.int .i64 0), (Value.int .i64 1)])) w) (
      cond (decide (a1 < 0)) (
        R (.returned (Value.tuple #[(Value.int .i64 0), (Value.int .i64 3)])) w) (
        cond (decide (a1 > ((a0n : Nat) : Int))) (
          R (.returned (Value.tuple #[(Value.int .i64 0), (Value.int .i64 3)])) w) (
          cond (decide ((IntKind.i64.wrap (((a0n : Nat) : Int) - a1)) < a2)) (
            R (.returned (Value.tuple #[(Value.int .i64 0), (Value.int .i64 3)])) w) (
            stopcockref04_Get.l1 a0p a0n a0c a1 a2 0 0 w R)))))
abbrev stopcockref04_Get.C (a0p : Option Addr) (a0n : Nat) (a0c : Nat) (a1 : Int) (a2 : Int) (w : World) (R : Ending → World → Prop) : Prop := Calls Try.prog 37 #[(Value.slice a0p a0n a0c), (Value.int .i64 a1), (Value.int .i64 a2)] w R
noncomputable def stopcockref04_Get.code : Code := (Try.f37.body).getD .skip
noncomputable def stopcockref04_Get.sk (R : Ending → World → Prop) : Sk := (.seq .leaf (.seq .leaf (.seq .leaf (.seq .leaf (.seq (.seq .leaf (.block (.loop [(0, .slice), (1, .int .i64), (2, .int .i64), (8, .int .i64), (9, .int .i64)] (fun (t0p : Option Addr) (t0n : Nat) (t0c : Nat) (t1 : Int) (t2 : Int) (t8 : Int) (t9 : Int) (w : World) => stopcockref04_Get.l1 t0p t0n t0c t1 t2 t8 t9 w R) (fun (C1 : Option Addr → Nat → Nat → Int → Int → Int → Int → World → Prop) => .leaf)))) .leaf)))))
def stopcockref04_Get.owed (R : Ending → World → Prop) : Prop :=
  (∀ (t0p : Option Addr) (t0n : Nat) (t0c : Nat) (t1 : Int) (t2 : Int) (t8 : Int) (t9 : Int) (w : World), stopcockref04_Get.l1 t0p t0n t0c t1 t2 t8 t9 w R → stopcockref04_Get.l1 t0p t0n t0c t1 t2 t8 t9 w R) ∧ (∀ (C1 : Option Addr → Nat → Nat → Int → Int → Int → Int → World → Prop), True) ∧ True
theorem stopcockref04_Get.pays (R : Ending → World → Prop) : stopcockref04_Get.owed R := ⟨(fun _ _ _ _ _ _ _ _ h => h), (fun _ => trivial), trivial⟩
set_option maxRecDepth 100000 in
theorem stopcockref04_Get.ok {a0p : Option Addr} {a0n : Nat} {a0c : Nat} {a1 : Int} {a2 : Int} {w : World} {R : Ending → World → Prop} (h : stopcockref04_Get.main a0p a0n a0c a1 a2 w R) : stopcockref04_Get.C a0p a0n a0c a1 a2 w R :=
  ev_ok cxok (c := cx) Try.func37 (code := stopcockref04_Get.code) (by kernel_rfl) [.tmp 6, .tmp 7] (by kernel_rfl) 48 (by kernel_rfl) (stopcockref04_Get.sk R) (args := [(Value.slice a0p a0n a0c), (Value.int .i64 a1), (Value.int .i64 a2)]) (Nat.le_of_ble_eq_true rfl) (by kernel_rfl) (o := stopcockref04_Get.owed R) (by kernel_rfl) (stopcockref04_Get.pays R) h

/-! ### stopcock/stopcockref03.Sum: function 42 -/
def stopcockref03_Sum.main (a0p : Option Addr) (a0n : Nat) (a0c : Nat) (w : World) (R : Ending → World → Prop) : Prop :=
  callP Try.prog 59 #[(Value.int .u32 0), (Value.slice a0p a0n a0c)] w (fun v1 w1 =>
    dI .u32 v1 fun x1 =>
    R (.returned (Value.int .u32 x1)) w1) (fun ch w2 => R (.panicked ch) w2)
abbrev stopcockref03_Sum.C (a0p : Option Addr) (a0n : Nat) (a0c : Nat) (w : World) (R : Ending → World → Prop) : Prop := Calls Try.prog 42 #[(Value.slice a0p a0n a0c)] w R
noncomputable def stopcockref03_Sum.code : Code := (Try.f42.body).getD .skip
noncomputable def stopcockref03_Sum.sk (R : Ending → World → Prop) : Sk := .leaf
def stopcockref03_Sum.owed (R : Ending → World → Prop) : Prop :=
  True
theorem stopcockref03_Sum.pays (R : Ending → World → Prop) : stopcockref03_Sum.owed R := trivial
set_option maxRecDepth 100000 in
theorem stopcockref03_Sum.ok {a0p : Option Addr} {a0n : Nat} {a0c : Nat} {w : World} {R : Ending → World → Prop} (h : stopcockref03_Sum.main a0p a0n a0c w R) : stopcockref03_Sum.C a0p a0n a0c w R :=
  ev_ok cxok (c := cx) Try.func42 (code := stopcockref03_Sum.code) (by kernel_rfl) [.tmp 2] (by kernel_rfl) 5 (by kernel_rfl) (stopcockref03_Sum.sk R) (args := [(Value.slice a0p a0n a0c)]) (Nat.le_of_ble_eq_true rfl) (by kernel_rfl) (o := stopcockref03_Sum.owed R) (by kernel_rfl) (stopcockref03_Sum.pays R) h

/-! ### stopcock/stopcockref01.Whole: function 43 -/
def stopcockref01_Whole.main (a0r : Nat) (a0m : Nat) (w : World) (R : Ending → World → Prop) : Prop :=
  callP Try.prog 58 #[(Value.complex .f64 a0r a0m)] w (fun v1 w1 =>
    dT v1 fun vs1 =>
    optP (vs1[0]?) fun v2 =>
    dI .i64 v2 fun x1 =>
    optP (vs1[1]?) fun v3 =>
    dI .i64 v3 fun x2 =>
    optP (vs1[2]?) fun v4 =>
    dI .i64 v4 fun x3 =>
    R (.returned (Value.bool (x3 == 0))) w1) (fun ch w2 => R (.panicked ch) w2)
abbrev stopcockref01_Whole.C (a0r : Nat) (a0m : Nat) (w : World) (R : Ending → World → Prop) : Prop := Calls Try.prog 43 #[(Value.complex .f64 a0r a0m)] w R
noncomputable def stopcockref01_Whole.code : Code := (Try.f43.body).getD .skip
noncomputable def stopcockref01_Whole.sk (R : Ending → World → Prop) : Sk := .leaf
def stopcockref01_Whole.owed (R : Ending → World → Prop) : Prop :=
  True
theorem stopcockref01_Whole.pays (R : Ending → World → Prop) : stopcockref01_Whole.owed R := trivial
set_option maxRecDepth 100000 in
theorem stopcockref01_Whole.ok {a0r : Nat} {a0m : Nat} {w : World} {R : Ending → World → Prop} (h : stopcockref01_Whole.main a0r a0m w R) : stopcockref01_Whole.C a0r a0m w R :=
  ev_ok cxok (c := cx) Try.func43 (code := stopcockref01_Whole.code) (by kernel_rfl) [.tmp 2] (by kernel_rfl) 14 (by kernel_rfl) (stopcockref01_Whole.sk R) (args := [(Value.complex .f64 a0r a0m)]) (Nat.le_of_ble_eq_true rfl) (by kernel_rfl) (o := stopcockref01_Whole.owed R) (by kernel_rfl) (stopcockref01_Whole.pays R) h

/-! ### stopcock/cell.size: function 44 -/
def cell_size.main (a0 : Int) (w : World) (R : Ending → World → Prop) : Prop :=
  cond (decide (a0 ≥ 1)) (
    R (.returned (Value.bool (decide (a0 ≤ 4)))) w) (
    R (.returned (Value.bool false)) w)
abbrev cell_size.C (a0 : Int) (w : World) (R : Ending → World → Prop) : Prop := Calls Try.prog 44 #[(Value.int .i64 a0)] w R
noncomputable def cell_size.code : Code := (Try.f44.body).getD .skip
noncomputable def cell_size.sk (R : Ending → World → Prop) : Sk := .leaf
def cell_size.owed (R : Ending → World → Prop) : Prop :=
  True
theorem cell_size.pays (R : Ending → World → Prop) : cell_size.owed R := trivial
set_option maxRecDepth 100000 in
theorem cell_size.ok {a0 : Int} {w : World} {R : Ending → World → Prop} (h : cell_size.main a0 w R) : cell_size.C a0 w R :=
  ev_ok cxok (c := cx) Try.func44 (code := cell_size.code) (by kernel_rfl) [.tmp 2] (by kernel_rfl) 9 (by kernel_rfl) (cell_size.sk R) (args := [(Value.int .i64 a0)]) (Nat.le_of_ble_eq_true rfl) (by kernel_rfl) (o := cell_size.owed R) (by kernel_rfl) (cell_size.pays R) h

/-! ### stopcock/cell.get: function 45 -/
def cell_get.b1 (t3 : Int) (t6p : Option Addr) (t6n : Nat) (t6c : Nat) (t7 : Int) (t8 : Int) (w : World) (R : Ending → World → Prop) (C1 : Int → Option Addr → Nat → Nat → Int → Int → World → Prop) : Prop :=
  cond (decide (t8 < t7)) (
    chk (decide (0 ≤ t8)) (
      chk (decide (t8 < ((t6n : Nat) : Int))) (
        optP t6p fun d1 =>
        ∃ (x1 : Int), w.cell? (d1.add (t8.toNat * 1)) = some (Value.int .u8 x1) ∧
        (C1 (IntKind.i64.wrap (BitVec.ofInt IntKind.i64.bits (IntKind.i64.wrap (t3 * 2 ^ (min 8 IntKind.i64.bits))) ||| BitVec.ofInt IntKind.i64.bits (IntKind.i64.wrap x1)).toNat) t6p t6n t6c t7 (IntKind.i64.wrap (t8 + 1)) w)))) (
    R (.returned (Value.int .i64 t3)) w)
def cell_get.l1 (t3 : Int) (t6p : Option Addr) (t6n : Nat) (t6c : Nat) (t7 : Int) (t8 : Int) (w : World) (R : Ending → World → Prop) : Prop :=
  ∃ (I : Int → Option Addr → Nat → Nat → Int → Int → World → Prop) (m : Int → Option Addr → Nat → Nat → Int → Int → World → Nat), I t3 t6p t6n t6c t7 t8 w ∧
  ∀ (t3 : Int) (t6p : Option Addr) (t6n : Nat) (t6c : Nat) (t7 : Int) (t8 : Int) (w : World), I t3 t6p t6n t6c t7 t8 w →
  cell_get.b1 t3 t6p t6n t6c t7 t8 w R (fun t3' t6p' t6n' t6c' t7' t8' w' => I t3' t6p' t6n' t6c' t7' t8' w' ∧ m t3' t6p' t6n' t6c' t7' t8' w' < m t3 t6p t6n t6c t7 t8 w)
def cell_get.main (a0p : Option Addr) (a0n : Nat) (a0c : Nat) (w : World) (R : Ending → World → Prop) : Prop :=
  cell_get.l1 0 a0p a0n a0c ((a0n : Nat) : Int) 0 w R
abbrev cell_get.C (a0p : Option Addr) (a0n : Nat) (a0c : Nat) (w : World) (R : Ending → World → Prop) : Prop := Calls Try.prog 45 #[(Value.slice a0p a0n a0c)] w R
noncomputable def cell_get.code : Code := (Try.f45.body).getD .skip
noncomputable def cell_get.sk (R : Ending → World → Prop) : Sk := (.seq .leaf (.seq .leaf (.seq (.seq .leaf (.block (.loop [(3, .int .i64), (6, .slice), (7, .int .i64), (8, .int .i64)] (fun (t3 : Int) (t6p : Option Addr) (t6n : Nat) (t6c : Nat) (t7 : Int) (t8 : Int) (w : World) => cell_get.l1 t3 t6p t6n t6c t7 t8 w R) (fun (C1 : Int → Option Addr → Nat → Nat → Int → Int → World → Prop) => .leaf)))) .leaf)))
def cell_get.owed (R : Ending → World → Prop) : Prop :=
  (∀ (t3 : Int) (t6p : Option Addr) (t6n : Nat) (t6c : Nat) (t7 : Int) (t8 : Int) (w : World), cell_get.l1 t3 t6p t6n t6c t7 t8 w R → cell_get.l1 t3 t6p t6n t6c t7 t8 w R) ∧ (∀ (C1 : Int → Option Addr → Nat → Nat → Int → Int → World → Prop), True) ∧ True
theorem cell_get.pays (R : Ending → World → Prop) : cell_get.owed R := ⟨(fun _ _ _ _ _ _ _ h => h), (fun _ => trivial), trivial⟩
set_option maxRecDepth 100000 in
theorem cell_get.ok {a0p : Option Addr} {a0n : Nat} {a0c : Nat} {w : World} {R : Ending → World → Prop} (h : cell_get.main a0p a0n a0c w R) : cell_get.C a0p a0n a0c w R :=
  ev_ok cxok (c := cx) Try.func45 (code := cell_get.code) (by kernel_rfl) [.tmp 2] (by kernel_rfl) 19 (by kernel_rfl) (cell_get.sk R) (args := [(Value.slice a0p a0n a0c)]) (Nat.le_of_ble_eq_true rfl) (by kernel_rfl) (o := cell_get.owed R) (by kernel_rfl) (cell_get.pays R) h

/-! ### stopcock/axis.width: function 46 -/
def axis_width.main (a0 : Int) (w : World) (R : Ending → World → Prop) : Prop :=
  cond (decide (a0 ≥ 1)) (
    R (.returned (Value.bool (decide (a0 ≤ 16)))) w) (
    R (.returned (Value.bool false)) w)
abbrev axis_width.C (a0 : Int) (w : World) (R : Ending → World → Prop) : Prop := Calls Try.prog 46 #[(Value.int .i64 a0)] w R
noncomputable def axis_width.code : Code := (Try.f46.body).getD .skip
noncomputable def axis_width.sk (R : Ending → World → Prop) : Sk := .leaf
def axis_width.owed (R : Ending → World → Prop) : Prop :=
  True
theorem axis_width.pays (R : Ending → World → Prop) : axis_width.owed R := trivial
set_option maxRecDepth 100000 in
theorem axis_width.ok {a0 : Int} {w : World} {R : Ending → World → Prop} (h : axis_width.main a0 w R) : axis_width.C a0 w R :=
  ev_ok cxok (c := cx) Try.func46 (code := axis_width.code) (by kernel_rfl) [.tmp 2] (by kernel_rfl) 9 (by kernel_rfl) (axis_width.sk R) (args := [(Value.int .i64 a0)]) (Nat.le_of_ble_eq_true rfl) (by kernel_rfl) (o := axis_width.owed R) (by kernel_rfl) (axis_width.pays R) h

/-! ### stopcock/owner.Within: function 47 -/
def owner_Within.b1 (t3 : Nat) (t17 : Array Value) (t18 : Int) (w : World) (R : Ending → World → Prop) (C1 : Nat → Array Value → Int → World → Prop) : Prop :=
  cond (decide (t18 < 8)) (
    chk (decide (0 ≤ t18)) (
      chk (decide (t18 < (8 : Int))) (
        optP (t17[(t18.toNat * 1)]?) fun v3 =>
        dS v3 fun p1 n1 c1 =>
        callP Try.prog 62 #[(Value.slice p1 n1 c1), (Value.func (.func 63) #[] #[(Value.pointer (some (⟨t3, 0, none⟩ : Addr)))])] w (fun v4 w7 =>
          dB v4 fun b4 =>
          cond b4 (
            R (.returned (Value.int .i64 5)) w7) (
            C1 t3 t17 (IntKind.i64.wrap (t18 + 1)) w7)) (fun ch w8 => R (.panicked ch) w8)))) (
    R (.returned (Value.int .i64 0)) w)
def owner_Within.l1 (t3 : Nat) (t17 : Array Value) (t18 : Int) (w : World) (R : Ending → World → Prop) : Prop :=
  ∃ (I : Nat → Array Value → Int → World → Prop) (m : Nat → Array Value → Int → World → Nat), I t3 t17 t18 w ∧
  ∀ (t3 : Nat) (t17 : Array Value) (t18 : Int) (w : World), I t3 t17 t18 w →
  owner_Within.b1 t3 t17 t18 w R (fun t3' t17' t18' w' => I t3' t17' t18' w' ∧ m t3' t17' t18' w' < m t3 t17 t18 w)
def owner_Within.main (a0 : Array Value) (a1_0 : Int) (a1_1 : Int) (w : World) (R : Ending → World → Prop) : Prop :=
  newP w a0 29 fun b1 w1 =>
  newP w1 #[(Value.int .i64 a1_0), (Value.int .i64 a1_1)] 31 fun b2 w2 =>
  ∃ (cs1 : Array Value), cs1.size = 2 ∧ CellsAt w2 (⟨b2, 0, none⟩ : Addr) cs1.toList ∧
  (callP Try.prog 60 #[(Value.agg cs1)] w2 (fun v1 w3 =>
      dI .i64 v1 fun x1 =>
      cond (x1 != 0) (
        R (.returned (Value.int .i64 x1)) w3) (
        ∃ (cs2 : Array Value), cs2.size = 24 ∧ CellsAt w3 (⟨b1, 0, none⟩ : Addr) cs2.toList ∧
        (callP Try.prog 61 #[(Value.agg cs2)] w3 (fun v2 w5 =>
            dB v2 fun b3 =>
            cond (!b3) (
              R (.returned (Value.int .i64 2)) w5) (
              ∃ (cs3 : Array Value), cs3.size = 8 ∧ CellsAt w5 (⟨b1, 16, none⟩ : Addr) cs3.toList ∧
              (owner_Within.l1 b2 cs3 0 w5 R))) (fun ch w6 => R (.panicked ch) w6)))) (fun ch w4 => R (.panicked ch) w4))
abbrev owner_Within.C (a0 : Array Value) (a1_0 : Int) (a1_1 : Int) (w : World) (R : Ending → World → Prop) : Prop := Calls Try.prog 47 #[(Value.agg a0), (Value.agg #[(Value.int .i64 a1_0), (Value.int .i64 a1_1)])] w R
noncomputable def owner_Within.code : Code := (Try.f47.body).getD .skip
noncomputable def owner_Within.sk (R : Ending → World → Prop) : Sk := (.seq .leaf (.seq .leaf (.seq .leaf (.seq (.seq .leaf (.block (.loop [(3, .blk), (17, .agg), (18, .int .i64)] (fun (t3 : Nat) (t17 : Array Value) (t18 : Int) (w : World) => owner_Within.l1 t3 t17 t18 w R) (fun (C1 : Nat → Array Value → Int → World → Prop) => .leaf)))) .leaf))))
def owner_Within.owed (R : Ending → World → Prop) : Prop :=
  (∀ (t3 : Nat) (t17 : Array Value) (t18 : Int) (w : World), owner_Within.l1 t3 t17 t18 w R → owner_Within.l1 t3 t17 t18 w R) ∧ (∀ (C1 : Nat → Array Value → Int → World → Prop), True) ∧ True
theorem owner_Within.pays (R : Ending → World → Prop) : owner_Within.owed R := ⟨(fun _ _ _ _ h => h), (fun _ => trivial), trivial⟩
set_option maxRecDepth 100000 in
theorem owner_Within.ok {a0 : Array Value} {a1_0 : Int} {a1_1 : Int} {w : World} {R : Ending → World → Prop} (h : owner_Within.main a0 a1_0 a1_1 w R) : owner_Within.C a0 a1_0 a1_1 w R :=
  ev_ok cxok (c := cx) Try.func47 (code := owner_Within.code) (by kernel_rfl) [.tmp 4] (by kernel_rfl) 25 (by kernel_rfl) (owner_Within.sk R) (args := [(Value.agg a0), (Value.agg #[(Value.int .i64 a1_0), (Value.int .i64 a1_1)])]) (Nat.le_of_ble_eq_true rfl) (by kernel_rfl) (o := owner_Within.owed R) (by kernel_rfl) (owner_Within.pays R) h

/-! ### stopcock/plat.Capacity: function 48 -/
def plat_Capacity.main (a0_0 : Int) (a0_1 : Int) (w : World) (R : Ending → World → Prop) : Prop :=
  newP w #[(Value.int .i64 a0_0), (Value.int .i64 a0_1)] 31 fun b1 w1 =>
  ∃ (cs1 : Array Value), cs1.size = 2 ∧ CellsAt w1 (⟨b1, 0, none⟩ : Addr) cs1.toList ∧
  (callP Try.prog 60 #[(Value.agg cs1)] w1 (fun v1 w2 =>
      dI .i64 v1 fun x1 =>
      cond (x1 != 0) (
        R (.returned (Value.tuple #[(Value.int .i64 0), (Value.int .i64 x1)])) w2) (
        ∃ (x2 : Int), w2.cell? (⟨b1, 0, none⟩ : Addr) = some (Value.int .i64 x2) ∧
        (∃ (x3 : Int), w2.cell? (⟨b1, 1, none⟩ : Addr) = some (Value.int .i64 x3) ∧
          (R (.returned (Value.tuple #[(Value.int .i64 (IntKind.i64.wrap ((IntKind.i64.wrap ((IntKind.i64.wrap (x2 - 2)) - 2)) * x3))), (Value.int .i64 0)])) w2)))) (fun ch w3 => R (.panicked ch) w3))
abbrev plat_Capacity.C (a0_0 : Int) (a0_1 : Int) (w : World) (R : Ending → World → Prop) : Prop := Calls Try.prog 48 #[(Value.agg #[(Value.int .i64 a0_0), (Value.int .i64 a0_1)])] w R
noncomputable def plat_Capacity.code : Code := (Try.f48.body).getD .skip
noncomputable def plat_Capacity.sk (R : Ending → World → Prop) : Sk := .leaf
def plat_Capacity.owed (R : Ending → World → Prop) : Prop :=
  True
theorem plat_Capacity.pays (R : Ending → World → Prop) : plat_Capacity.owed R := trivial
set_option maxRecDepth 100000 in
theorem plat_Capacity.ok {a0_0 : Int} {a0_1 : Int} {w : World} {R : Ending → World → Prop} (h : plat_Capacity.main a0_0 a0_1 w R) : plat_Capacity.C a0_0 a0_1 w R :=
  ev_ok cxok (c := cx) Try.func48 (code := plat_Capacity.code) (by kernel_rfl) [.tmp 2, .tmp 3] (by kernel_rfl) 17 (by kernel_rfl) (plat_Capacity.sk R) (args := [(Value.agg #[(Value.int .i64 a0_0), (Value.int .i64 a0_1)])]) (Nat.le_of_ble_eq_true rfl) (by kernel_rfl) (o := plat_Capacity.owed R) (by kernel_rfl) (plat_Capacity.pays R) h

/-! ### stopcock/owner.all: function 49 -/
def owner_all.b2 (t3 : Option Nat) (t4 : Int) (t10 : Array Value) (t11 : Int) (t15p : Option Addr) (t15n : Nat) (t15c : Nat) (t16 : Int) (t17 : Int) (w : World) (R : Ending → World → Prop) (C1 : Option Nat → Array Value → Int → World → Prop) (C2 : Option Nat → Int → Array Value → Int → Option Addr → Nat → Nat → Int → Int → World → Prop) : Prop :=
  cond (decide (t17 < t16)) (
    chk (decide (0 ≤ t17)) (
      chk (decide (t17 < ((t15n : Nat) : Int))) (
        optP t15p fun d1 =>
        ∃ (r1 : Nat) (m1 : Nat), w.cell? (d1.add (t17.toNat * 1)) = some (Value.complex .f64 r1 m1) ∧
        (cond (!(fCmp .eql r1 13830554455654793216 && fCmp .eql m1 0)) (
            newP w #[(Value.int .i64 t4), (Value.int .i64 t17)] 97 fun b3 w3 =>
            optP t3 fun b4 =>
            mentP Try.prog w3 b4 r1 m1 95 (.slice none 0 0) fun v2 st1 w4 =>
            dS v2 fun p2 n2 c2 =>
            appP w4 p2 n2 c2 1 (CellsO w4 (some ⟨b3, 0, none⟩)) 97 2 16 #[(Value.int .i64 0), (Value.int .i64 0)] fun p3 c3 w5 =>
            optP t3 fun b5 =>
            mstoP w5 b5 st1 (Value.slice p3 (n2 + 1) c3) fun w6 =>
            C2 t3 t4 t10 t11 t15p t15n t15c t16 (IntKind.i64.wrap (t17 + 1)) w6) (
            C2 t3 t4 t10 t11 t15p t15n t15c t16 (IntKind.i64.wrap (t17 + 1)) w))))) (
    C1 t3 t10 (IntKind.i64.wrap (t11 + 1)) w)
def owner_all.l2 (t3 : Option Nat) (t4 : Int) (t10 : Array Value) (t11 : Int) (t15p : Option Addr) (t15n : Nat) (t15c : Nat) (t16 : Int) (t17 : Int) (w : World) (R : Ending → World → Prop) (C1 : Option Nat → Array Value → Int → World → Prop) : Prop :=
  ∃ (I : Option Nat → Int → Array Value → Int → Option Addr → Nat → Nat → Int → Int → World → Prop) (m : Option Nat → Int → Array Value → Int → Option Addr → Nat → Nat → Int → Int → World → Nat), I t3 t4 t10 t11 t15p t15n t15c t16 t17 w ∧
  ∀ (t3 : Option Nat) (t4 : Int) (t10 : Array Value) (t11 : Int) (t15p : Option Addr) (t15n : Nat) (t15c : Nat) (t16 : Int) (t17 : Int) (w : World), I t3 t4 t10 t11 t15p t15n t15c t16 t17 w →
  owner_all.b2 t3 t4 t10 t11 t15p t15n t15c t16 t17 w R C1 (fun t3' t4' t10' t11' t15p' t15n' t15c' t16' t17' w' => I t3' t4' t10' t11' t15p' t15n' t15c' t16' t17' w' ∧ m t3' t4' t10' t11' t15p' t15n' t15c' t16' t17' w' < m t3 t4 t10 t11 t15p t15n t15c t16 t17 w)
def owner_all.b1 (t3 : Option Nat) (t10 : Array Value) (t11 : Int) (w : World) (R : Ending → World → Prop) (C1 : Option Nat → Array Value → Int → World → Prop) : Prop :=
  cond (decide (t11 < 8)) (
    chk (decide (0 ≤ t11)) (
      chk (decide (t11 < (8 : Int))) (
        optP (t10[(t11.toNat * 1)]?) fun v1 =>
        dS v1 fun p1 n1 c1 =>
        owner_all.l2 t3 t11 t10 t11 p1 n1 c1 ((n1 : Nat) : Int) 0 w R C1))) (
    R (.returned (Value.map t3)) w)
def owner_all.l1 (t3 : Option Nat) (t10 : Array Value) (t11 : Int) (w : World) (R : Ending → World → Prop) : Prop :=
  ∃ (I : Option Nat → Array Value → Int → World → Prop) (m : Option Nat → Array Value → Int → World → Nat), I t3 t10 t11 w ∧
  ∀ (t3 : Option Nat) (t10 : Array Value) (t11 : Int) (w : World), I t3 t10 t11 w →
  owner_all.b1 t3 t10 t11 w R (fun t3' t10' t11' w' => I t3' t10' t11' w' ∧ m t3' t10' t11' w' < m t3 t10 t11 w)
def owner_all.main (a0 : Array Value) (w : World) (R : Ending → World → Prop) : Prop :=
  newP w a0 29 fun b1 w1 =>
  newMP w1 fun b2 w2 =>
  ∃ (cs1 : Array Value), cs1.size = 8 ∧ CellsAt w2 (⟨b1, 16, none⟩ : Addr) cs1.toList ∧
  (owner_all.l1 (some b2) cs1 0 w2 R)
abbrev owner_all.C (a0 : Array Value) (w : World) (R : Ending → World → Prop) : Prop := Calls Try.prog 49 #[(Value.agg a0)] w R
noncomputable def owner_all.code : Code := (Try.f49.body).getD .skip
noncomputable def owner_all.sk (R : Ending → World → Prop) : Sk := (.seq .leaf (.seq .leaf (.seq (.seq .leaf (.block (.loop [(3, .map), (10, .agg), (11, .int .i64)] (fun (t3 : Option Nat) (t10 : Array Value) (t11 : Int) (w : World) => owner_all.l1 t3 t10 t11 w R) (fun (C1 : Option Nat → Array Value → Int → World → Prop) => (.seq .leaf (.seq .leaf (.seq (.block (.seq .leaf (.seq .leaf (.block (.loop [(3, .map), (4, .int .i64), (10, .agg), (11, .int .i64), (15, .slice), (16, .int .i64), (17, .int .i64)] (fun (t3 : Option Nat) (t4 : Int) (t10 : Array Value) (t11 : Int) (t15p : Option Addr) (t15n : Nat) (t15c : Nat) (t16 : Int) (t17 : Int) (w : World) => owner_all.l2 t3 t4 t10 t11 t15p t15n t15c t16 t17 w R C1) (fun (C2 : Option Nat → Int → Array Value → Int → Option Addr → Nat → Nat → Int → Int → World → Prop) => .leaf)))))) .leaf))))))) .leaf)))
def owner_all.owed (R : Ending → World → Prop) : Prop :=
  (∀ (t3 : Option Nat) (t10 : Array Value) (t11 : Int) (w : World), owner_all.l1 t3 t10 t11 w R → owner_all.l1 t3 t10 t11 w R) ∧ (∀ (C1 : Option Nat → Array Value → Int → World → Prop), (∀ (t3 : Option Nat) (t4 : Int) (t10 : Array Value) (t11 : Int) (t15p : Option Addr) (t15n : Nat) (t15c : Nat) (t16 : Int) (t17 : Int) (w : World), owner_all.l2 t3 t4 t10 t11 t15p t15n t15c t16 t17 w R C1 → owner_all.l2 t3 t4 t10 t11 t15p t15n t15c t16 t17 w R C1) ∧ (∀ (C2 : Option Nat → Int → Array Value → Int → Option Addr → Nat → Nat → Int → Int → World → Prop), True) ∧ True) ∧ True
theorem owner_all.pays (R : Ending → World → Prop) : owner_all.owed R := ⟨(fun _ _ _ _ h => h), (fun _ => ⟨(fun _ _ _ _ _ _ _ _ _ _ h => h), (fun _ => trivial), trivial⟩), trivial⟩
set_option maxRecDepth 100000 in
theorem owner_all.ok {a0 : Array Value} {w : World} {R : Ending → World → Prop} (h : owner_all.main a0 w R) : owner_all.C a0 w R :=
  ev_ok cxok (c := cx) Try.func49 (code := owner_all.code) (by kernel_rfl) [.tmp 2] (by kernel_rfl) 37 (by kernel_rfl) (owner_all.sk R) (args := [(Value.agg a0)]) (Nat.le_of_ble_eq_true rfl) (by kernel_rfl) (o := owner_all.owed R) (by kernel_rfl) (owner_all.pays R) h

end Go.Proofs.Ytokepljpieboiaa.G

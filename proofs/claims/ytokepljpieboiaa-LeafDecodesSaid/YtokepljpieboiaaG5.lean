/- Statements of functions, and that their calls do what they say. Printed by wip/tool/dec.py. Conditions: none. -/
import Derived.Test.YtokepljpieboiaaG0
namespace Go.Proofs.Ytokepljpieboiaa.G
open Go.Dec
set_option linter.unusedVariables false

/-! ### stopcock/seal.step: function 67 -/
def seal_step.b1 (t0 : Int) (t4 : Int) (w : World) (R : Ending → World → Prop) (C1 : Int → Int → World → Prop) : Prop :=
  cond (decide (t4 < 8)) (
    C1 (IntKind.u32.wrap (BitVec.ofInt IntKind.u32.bits (IntKind.u32.wrap (t0 * 2 ^ (min 1 IntKind.u32.bits))) ^^^ BitVec.ofInt IntKind.u32.bits (IntKind.u32.wrap (79764919 * (Int.fdiv t0 (2 ^ (min 31 IntKind.u32.bits)))))).toNat) (IntKind.i64.wrap (t4 + 1)) w) (
    R (.returned (Value.int .u32 t0)) w)
def seal_step.l1 (t0 : Int) (t4 : Int) (w : World) (R : Ending → World → Prop) : Prop :=
  ∃ (I : Int → Int → World → Prop) (m : Int → Int → World → Nat), I t0 t4 w ∧
  ∀ (t0 : Int) (t4 : Int) (w : World), I t0 t4 w →
  seal_step.b1 t0 t4 w R (fun t0' t4' w' => I t0' t4' w' ∧ m t0' t4' w' < m t0 t4 w)
def seal_step.main (a0 : Int) (w : World) (R : Ending → World → Prop) : Prop :=
  seal_step.l1 a0 0 w R
abbrev seal_step.C (a0 : Int) (w : World) (R : Ending → World → Prop) : Prop := Calls Try.prog 67 #[(Value.int .u32 a0)] w R
noncomputable def seal_step.code : Code := (Try.f67.body).getD .skip
noncomputable def seal_step.sk (R : Ending → World → Prop) : Sk := (.seq .leaf (.seq (.seq .leaf (.block (.loop [(0, .int .u32), (4, .int .i64)] (fun (t0 : Int) (t4 : Int) (w : World) => seal_step.l1 t0 t4 w R) (fun (C1 : Int → Int → World → Prop) => .leaf)))) .leaf))
def seal_step.owed (R : Ending → World → Prop) : Prop :=
  (∀ (t0 : Int) (t4 : Int) (w : World), seal_step.l1 t0 t4 w R → seal_step.l1 t0 t4 w R) ∧ (∀ (C1 : Int → Int → World → Prop), True) ∧ True
theorem seal_step.pays (R : Ending → World → Prop) : seal_step.owed R := ⟨(fun _ _ _ h => h), (fun _ => trivial), trivial⟩
set_option maxRecDepth 100000 in
theorem seal_step.ok {a0 : Int} {w : World} {R : Ending → World → Prop} (h : seal_step.main a0 w R) : seal_step.C a0 w R :=
  ev_ok cxok (c := cx) Try.func67 (code := seal_step.code) (by kernel_rfl) [.tmp 2] (by kernel_rfl) 16 (by kernel_rfl) (seal_step.sk R) (args := [(Value.int .u32 a0)]) (Nat.le_of_ble_eq_true rfl) (by kernel_rfl) (o := seal_step.owed R) (by kernel_rfl) (seal_step.pays R) h

/-! ### stopcock/stopcockref01.part: function 73 -/
def stopcockref01_part.b1 (t0 : Nat) (t1 : Int) (t5 : Int) (w : World) (R : Ending → World → Prop) (C1 : Nat → Int → Int → World → Prop) : Prop :=
  cond (decide (t5 < t1)) (
    cond (fCmp .eql t0 (FloatKind.f64.nearest t5)) (
      R (.returned (Value.int .i64 t5)) w) (
      C1 t0 t1 (IntKind.i64.wrap (t5 + 1)) w)) (
    R (.returned (Value.int .i64 (-1))) w)
def stopcockref01_part.l1 (t0 : Nat) (t1 : Int) (t5 : Int) (w : World) (R : Ending → World → Prop) : Prop :=
  ∃ (I : Nat → Int → Int → World → Prop) (m : Nat → Int → Int → World → Nat), I t0 t1 t5 w ∧
  ∀ (t0 : Nat) (t1 : Int) (t5 : Int) (w : World), I t0 t1 t5 w →
  stopcockref01_part.b1 t0 t1 t5 w R (fun t0' t1' t5' w' => I t0' t1' t5' w' ∧ m t0' t1' t5' w' < m t0 t1 t5 w)
def stopcockref01_part.main (a0 : Nat) (a1 : Int) (w : World) (R : Ending → World → Prop) : Prop :=
  stopcockref01_part.l1 a0 a1 0 w R
abbrev stopcockref01_part.C (a0 : Nat) (a1 : Int) (w : World) (R : Ending → World → Prop) : Prop := Calls Try.prog 73 #[(Value.float .f64 a0), (Value.int .i64 a1)] w R
noncomputable def stopcockref01_part.code : Code := (Try.f73.body).getD .skip
noncomputable def stopcockref01_part.sk (R : Ending → World → Prop) : Sk := (.seq .leaf (.seq (.seq .leaf (.block (.loop [(0, .flt), (1, .int .i64), (5, .int .i64)] (fun (t0 : Nat) (t1 : Int) (t5 : Int) (w : World) => stopcockref01_part.l1 t0 t1 t5 w R) (fun (C1 : Nat → Int → Int → World → Prop) => .leaf)))) .leaf))
def stopcockref01_part.owed (R : Ending → World → Prop) : Prop :=
  (∀ (t0 : Nat) (t1 : Int) (t5 : Int) (w : World), stopcockref01_part.l1 t0 t1 t5 w R → stopcockref01_part.l1 t0 t1 t5 w R) ∧ (∀ (C1 : Nat → Int → Int → World → Prop), True) ∧ True
theorem stopcockref01_part.pays (R : Ending → World → Prop) : stopcockref01_part.owed R := ⟨(fun _ _ _ _ h => h), (fun _ => trivial), trivial⟩
set_option maxRecDepth 100000 in
theorem stopcockref01_part.ok {a0 : Nat} {a1 : Int} {w : World} {R : Ending → World → Prop} (h : stopcockref01_part.main a0 a1 w R) : stopcockref01_part.C a0 a1 w R :=
  ev_ok cxok (c := cx) Try.func73 (code := stopcockref01_part.code) (by kernel_rfl) [.tmp 4] (by kernel_rfl) 16 (by kernel_rfl) (stopcockref01_part.sk R) (args := [(Value.float .f64 a0), (Value.int .i64 a1)]) (Nat.le_of_ble_eq_true rfl) (by kernel_rfl) (o := stopcockref01_part.owed R) (by kernel_rfl) (stopcockref01_part.pays R) h

/-! ### stopcock/delta.in: function 74 -/
def delta_in.main (a0 : Int) (a1 : Int) (a2 : Int) (w : World) (R : Ending → World → Prop) : Prop :=
  cond (decide (a0 ≥ a1)) (
    R (.returned (Value.bool (decide (a0 < a2)))) w) (
    R (.returned (Value.bool false)) w)
abbrev delta_in.C (a0 : Int) (a1 : Int) (a2 : Int) (w : World) (R : Ending → World → Prop) : Prop := Calls Try.prog 74 #[(Value.int .i64 a0), (Value.int .i64 a1), (Value.int .i64 a2)] w R
noncomputable def delta_in.code : Code := (Try.f74.body).getD .skip
noncomputable def delta_in.sk (R : Ending → World → Prop) : Sk := .leaf
def delta_in.owed (R : Ending → World → Prop) : Prop :=
  True
theorem delta_in.pays (R : Ending → World → Prop) : delta_in.owed R := trivial
set_option maxRecDepth 100000 in
theorem delta_in.ok {a0 : Int} {a1 : Int} {a2 : Int} {w : World} {R : Ending → World → Prop} (h : delta_in.main a0 a1 a2 w R) : delta_in.C a0 a1 a2 w R :=
  ev_ok cxok (c := cx) Try.func74 (code := delta_in.code) (by kernel_rfl) [.tmp 6] (by kernel_rfl) 15 (by kernel_rfl) (delta_in.sk R) (args := [(Value.int .i64 a0), (Value.int .i64 a1), (Value.int .i64 a2)]) (Nat.le_of_ble_eq_true rfl) (by kernel_rfl) (o := delta_in.owed R) (by kernel_rfl) (delta_in.pays R) h

/-! ### stopcock/delta.Sound$1: function 75 -/
def delta_Sound_1.main (a0r : Nat) (a0m : Nat) (w : World) (R : Ending → World → Prop) : Prop :=
  cond (!(fCmp .eql a0r 13830554455654793216 && fCmp .eql a0m 0)) (
    callP Try.prog 76 #[(Value.complex .f64 a0r a0m)] w (fun v1 w1 =>
      dB v1 fun b1 =>
      R (.returned (Value.bool (!b1))) w1) (fun ch w2 => R (.panicked ch) w2)) (
    R (.returned (Value.bool false)) w)
abbrev delta_Sound_1.C (a0r : Nat) (a0m : Nat) (w : World) (R : Ending → World → Prop) : Prop := Calls Try.prog 75 #[(Value.complex .f64 a0r a0m)] w R
noncomputable def delta_Sound_1.code : Code := (Try.f75.body).getD .skip
noncomputable def delta_Sound_1.sk (R : Ending → World → Prop) : Sk := .leaf
def delta_Sound_1.owed (R : Ending → World → Prop) : Prop :=
  True
theorem delta_Sound_1.pays (R : Ending → World → Prop) : delta_Sound_1.owed R := trivial
set_option maxRecDepth 100000 in
theorem delta_Sound_1.ok {a0r : Nat} {a0m : Nat} {w : World} {R : Ending → World → Prop} (h : delta_Sound_1.main a0r a0m w R) : delta_Sound_1.C a0r a0m w R :=
  ev_ok cxok (c := cx) Try.func75 (code := delta_Sound_1.code) (by kernel_rfl) [.tmp 2] (by kernel_rfl) 10 (by kernel_rfl) (delta_Sound_1.sk R) (args := [(Value.complex .f64 a0r a0m)]) (Nat.le_of_ble_eq_true rfl) (by kernel_rfl) (o := delta_Sound_1.owed R) (by kernel_rfl) (delta_Sound_1.pays R) h

/-! ### stopcock/axis.Whole: function 76 -/
def axis_Whole.main (a0r : Nat) (a0m : Nat) (w : World) (R : Ending → World → Prop) : Prop :=
  callP Try.prog 78 #[(Value.float .f64 a0r), (Value.int .i64 24)] w (fun v1 w1 =>
    dB v1 fun b1 =>
    cond b1 (
      callP Try.prog 78 #[(Value.float .f64 a0m), (Value.int .i64 16)] w1 (fun v2 w3 =>
        dB v2 fun b2 =>
        R (.returned (Value.bool b2)) w3) (fun ch w4 => R (.panicked ch) w4)) (
      R (.returned (Value.bool false)) w1)) (fun ch w2 => R (.panicked ch) w2)
abbrev axis_Whole.C (a0r : Nat) (a0m : Nat) (w : World) (R : Ending → World → Prop) : Prop := Calls Try.prog 76 #[(Value.complex .f64 a0r a0m)] w R
noncomputable def axis_Whole.code : Code := (Try.f76.body).getD .skip
noncomputable def axis_Whole.sk (R : Ending → World → Prop) : Sk := .leaf
def axis_Whole.owed (R : Ending → World → Prop) : Prop :=
  True
theorem axis_Whole.pays (R : Ending → World → Prop) : axis_Whole.owed R := trivial
set_option maxRecDepth 100000 in
theorem axis_Whole.ok {a0r : Nat} {a0m : Nat} {w : World} {R : Ending → World → Prop} (h : axis_Whole.main a0r a0m w R) : axis_Whole.C a0r a0m w R :=
  ev_ok cxok (c := cx) Try.func76 (code := axis_Whole.code) (by kernel_rfl) [.tmp 2] (by kernel_rfl) 11 (by kernel_rfl) (axis_Whole.sk R) (args := [(Value.complex .f64 a0r a0m)]) (Nat.le_of_ble_eq_true rfl) (by kernel_rfl) (o := axis_Whole.owed R) (by kernel_rfl) (axis_Whole.pays R) h

/-! ### stopcock/axis.within: function 78 -/
def axis_within.main (a0 : Nat) (a1 : Int) (w : World) (R : Ending → World → Prop) : Prop :=
  cond (fCmp .geq a0 0) (
    cond (fCmp .lss a0 (FloatKind.f64.nearest a1)) (
      optP ((FloatKind.f64.decode a0).toInt .zero) fun x1 =>
      chk (decide (IntKind.i64.min ≤ x1)) (
        chk (decide (x1 ≤ IntKind.i64.max)) (
          R (.returned (Value.bool (fCmp .eql (FloatKind.f64.nearest x1) a0))) w))) (
      R (.returned (Value.bool false)) w)) (
    R (.returned (Value.bool false)) w)
abbrev axis_within.C (a0 : Nat) (a1 : Int) (w : World) (R : Ending → World → Prop) : Prop := Calls Try.prog 78 #[(Value.float .f64 a0), (Value.int .i64 a1)] w R
noncomputable def axis_within.code : Code := (Try.f78.body).getD .skip
noncomputable def axis_within.sk (R : Ending → World → Prop) : Sk := .leaf
def axis_within.owed (R : Ending → World → Prop) : Prop :=
  True
theorem axis_within.pays (R : Ending → World → Prop) : axis_within.owed R := trivial
set_option maxRecDepth 100000 in
theorem axis_within.ok {a0 : Nat} {a1 : Int} {w : World} {R : Ending → World → Prop} (h : axis_within.main a0 a1 w R) : axis_within.C a0 a1 w R :=
  ev_ok cxok (c := cx) Try.func78 (code := axis_within.code) (by kernel_rfl) [.tmp 4] (by kernel_rfl) 20 (by kernel_rfl) (axis_within.sk R) (args := [(Value.float .f64 a0), (Value.int .i64 a1)]) (Nat.le_of_ble_eq_true rfl) (by kernel_rfl) (o := axis_within.owed R) (by kernel_rfl) (axis_within.pays R) h

/-! ### stopcock/stopcocklaw13.LeafDecodes: function 3 -/
def stopcocklaw13_LeafDecodes.main (a0p : Option Addr) (a0n : Nat) (a0c : Nat) (w : World) (R : Ending → World → Prop) : Prop :=
  callP Try.prog 5 #[(Value.slice a0p a0n a0c)] w (fun v1 w1 =>
    dT v1 fun vs1 =>
    optP (vs1[0]?) fun v2 =>
    dA v2 fun cs1 =>
    optP (vs1[1]?) fun v3 =>
    dA v3 fun cs2 =>
    optP (vs1[2]?) fun v4 =>
    dI .i64 v4 fun x1 =>
    optP (vs1[3]?) fun v5 =>
    dI .i64 v5 fun x2 =>
    newP w1 #[(Value.int .i64 0), (Value.int .i64 0), (Value.int .i64 0), (Value.int .i64 0), (Value.int .i64 0), (Value.int .i64 0), (Value.int .i64 0), (Value.int .i64 0), (Value.int .i64 0), (Value.int .i64 0), (Value.int .i64 0), (Value.int .i64 0), (Value.int .i64 0), (Value.int .i64 0), (Value.int .i64 0), (Value.int .i64 0), (Value.slice none 0 0), (Value.slice none 0 0), (Value.slice none 0 0), (Value.slice none 0 0), (Value.slice none 0 0), (Value.slice none 0 0), (Value.slice none 0 0), (Value.slice none 0 0)] 29 fun b1 w3 =>
    newP w3 #[(Value.int .i64 0), (Value.int .i64 0)] 31 fun b2 w4 =>
    chk (decide (cs1.size = 24)) (
      Wr w4 (⟨b1, 0, none⟩ : Addr) cs1.toList ∧ ∀ w5, w5 = w4.setCells (⟨b1, 0, none⟩ : Addr).block (⟨b1, 0, none⟩ : Addr).off cs1.toList →
      (chk (decide (cs2.size = 2)) (
          Wr w5 (⟨b2, 0, none⟩ : Addr) cs2.toList ∧ ∀ w6, w6 = w5.setCells (⟨b2, 0, none⟩ : Addr).block (⟨b2, 0, none⟩ : Addr).off cs2.toList →
          (callP Try.prog 6 #[(Value.slice a0p a0n a0c)] w6 (fun v6 w7 =>
              dT v6 fun vs2 =>
              optP (vs2[0]?) fun v7 =>
              dA v7 fun cs3 =>
              optP (vs2[1]?) fun v8 =>
              dA v8 fun cs4 =>
              optP (vs2[2]?) fun v9 =>
              dI .i64 v9 fun x3 =>
              optP (vs2[3]?) fun v10 =>
              dI .i64 v10 fun x4 =>
              newP w7 #[(Value.int .i64 0), (Value.int .i64 0), (Value.int .i64 0), (Value.int .i64 0), (Value.int .i64 0), (Value.int .i64 0), (Value.int .i64 0), (Value.int .i64 0), (Value.int .i64 0), (Value.int .i64 0), (Value.int .i64 0), (Value.int .i64 0), (Value.int .i64 0), (Value.int .i64 0), (Value.int .i64 0), (Value.int .i64 0), (Value.slice none 0 0), (Value.slice none 0 0), (Value.slice none 0 0), (Value.slice none 0 0), (Value.slice none 0 0), (Value.slice none 0 0), (Value.slice none 0 0), (Value.slice none 0 0)] 29 fun b3 w9 =>
              newP w9 #[(Value.int .i64 0), (Value.int .i64 0)] 31 fun b4 w10 =>
              chk (decide (cs3.size = 24)) (
                Wr w10 (⟨b3, 0, none⟩ : Addr) cs3.toList ∧ ∀ w11, w11 = w10.setCells (⟨b3, 0, none⟩ : Addr).block (⟨b3, 0, none⟩ : Addr).off cs3.toList →
                (chk (decide (cs4.size = 2)) (
                    Wr w11 (⟨b4, 0, none⟩ : Addr) cs4.toList ∧ ∀ w12, w12 = w11.setCells (⟨b4, 0, none⟩ : Addr).block (⟨b4, 0, none⟩ : Addr).off cs4.toList →
                    (callP Try.prog 7 #[] w12 (fun v11 w13 =>
                        dB v11 fun b5 =>
                        cond b5 (
                          cond (x2 == x4) (
                          cond (x1 == x3) (
                          ∃ (cs5 : Array Value), cs5.size = 2 ∧ CellsAt w13 (⟨b2, 0, none⟩ : Addr) cs5.toList ∧
                          (∃ (cs6 : Array Value), cs6.size = 2 ∧ CellsAt w13 (⟨b4, 0, none⟩ : Addr) cs6.toList ∧
                          (∃ (b6 : Bool), eqRun Try.prog .eql 31 (.tmp 37) (.tmp 38) (Value.agg cs5) (Value.agg cs6) b6 ∧
                          (cond b6 (
                          ∃ (cs7 : Array Value), cs7.size = 24 ∧ CellsAt w13 (⟨b1, 0, none⟩ : Addr) cs7.toList ∧
                          (∃ (cs8 : Array Value), cs8.size = 24 ∧ CellsAt w13 (⟨b3, 0, none⟩ : Addr) cs8.toList ∧
                          (callP Try.prog 8 #[(Value.agg cs7), (Value.agg cs8)] w13 (fun v12 w15 =>
                          dB v12 fun b7 =>
                          R (.returned (Value.bool b7)) w15) (fun ch w16 => R (.panicked ch) w16)))) (
                          R (.returned (Value.bool false)) w13))))) (
                          R (.returned (Value.bool false)) w13)) (
                          R (.returned (Value.bool false)) w13)) (
                          R (.returned (Value.bool false)) w13)) (fun ch w14 => R (.panicked ch) w14)))))) (fun ch w8 => R (.panicked ch) w8)))))) (fun ch w2 => R (.panicked ch) w2)
abbrev stopcocklaw13_LeafDecodes.C (a0p : Option Addr) (a0n : Nat) (a0c : Nat) (w : World) (R : Ending → World → Prop) : Prop := Calls Try.prog 3 #[(Value.slice a0p a0n a0c)] w R
noncomputable def stopcocklaw13_LeafDecodes.code : Code := (Try.f3.body).getD .skip
noncomputable def stopcocklaw13_LeafDecodes.sk (R : Ending → World → Prop) : Sk := .leaf
def stopcocklaw13_LeafDecodes.owed (R : Ending → World → Prop) : Prop :=
  True
theorem stopcocklaw13_LeafDecodes.pays (R : Ending → World → Prop) : stopcocklaw13_LeafDecodes.owed R := trivial
set_option maxRecDepth 100000 in
theorem stopcocklaw13_LeafDecodes.ok {a0p : Option Addr} {a0n : Nat} {a0c : Nat} {w : World} {R : Ending → World → Prop} (h : stopcocklaw13_LeafDecodes.main a0p a0n a0c w R) : stopcocklaw13_LeafDecodes.C a0p a0n a0c w R :=
  ev_ok cxok (c := cx) Try.func3 (code := stopcocklaw13_LeafDecodes.code) (by kernel_rfl) [.tmp 2] (by kernel_rfl) 46 (by kernel_rfl) (stopcocklaw13_LeafDecodes.sk R) (args := [(Value.slice a0p a0n a0c)]) (Nat.le_of_ble_eq_true rfl) (by kernel_rfl) (o := stopcocklaw13_LeafDecodes.owed R) (by kernel_rfl) (stopcocklaw13_LeafDecodes.pays R) h

/-! ### stopcock/stopcockref13.Decode: function 6 -/
def stopcockref13_Decode.k1 (t0p : Option Addr) (t0n : Nat) (t0c : Nat) (t2 : Nat) (t3 : Nat) (t6 : Nat) (t7p : Option Addr) (t7n : Nat) (t7c : Nat) (t8 : Int) (t9p : Option Addr) (t9n : Nat) (t9c : Nat) (t59 : Bool) (w : World) (R : Ending → World → Prop) (C1 : Option Addr → Nat → Nat → Nat → Nat → Nat → Option Addr → Nat → Nat → Int → World → Prop) : Prop :=
  cond t59 (
    chk (decide (5 < ((t9n : Nat) : Int))) (
      optP t9p fun d3 =>
      ∃ (x3 : Int), w.cell? (d3.add 5) = some (Value.int .u8 x3) ∧
      (chk (decide (0 ≤ (IntKind.i64.wrap (6 + (IntKind.i64.wrap x3))))) (
          chk (decide ((IntKind.i64.wrap (6 + (IntKind.i64.wrap x3))) ≤ ((t9c : Nat) : Int))) (
            chk (decide (6 ≤ (((IntKind.i64.wrap (6 + (IntKind.i64.wrap x3))).toNat : Nat) : Int))) (
              appP w t7p t7n t7c ((IntKind.i64.wrap (6 + (IntKind.i64.wrap x3))).toNat - 6) (CellsO w (slA t9p t9c 6 1)) 5 1 1 #[(Value.int .u8 0)] fun p3 c3 w14 =>
              C1 t0p t0n t0c t2 t3 t6 p3 (t7n + ((IntKind.i64.wrap (6 + (IntKind.i64.wrap x3))).toNat - 6)) c3 (IntKind.i64.wrap (t8 + 1)) w14)))))) (
    C1 t0p t0n t0c t2 t3 t6 t7p t7n t7c (IntKind.i64.wrap (t8 + 1)) w)
def stopcockref13_Decode.k4 (t0p : Option Addr) (t0n : Nat) (t0c : Nat) (t2 : Nat) (t3 : Nat) (t6 : Nat) (t7p : Option Addr) (t7n : Nat) (t7c : Nat) (t11 : Nat) (t12 : Nat) (t13 : Int) (t14 : Int) (t15 : Int) (t17r : Nat) (t17m : Nat) (t82 : Int) (t83 : Int) (t84p : Option Addr) (t84n : Nat) (t84c : Nat) (t85 : Int) (t86 : Bool) (t115 : Int) (t116 : Int) (t117p : Option Addr) (t117n : Nat) (t117c : Nat) (t118 : Int) (t119 : Bool) (w : World) (R : Ending → World → Prop) (C2 : Option Addr → Nat → Nat → Nat → Nat → Nat → Option Addr → Nat → Nat → Nat → Nat → Int → Int → World → Prop) (C3 : Option Addr → Nat → Nat → Nat → Nat → Nat → Option Addr → Nat → Nat → Nat → Nat → Int → Int → Int → Int → Int → Option Addr → Nat → Nat → Int → Bool → World → Prop) : Prop :=
  chk (decide (0 ≤ t14)) (
    chk (decide (t14 < (8 : Int))) (
      ∃ (p6 : Option Addr) (n5 : Nat) (c6 : Nat), w.cell? ((⟨t12, 16, none⟩ : Addr).add (t14.toNat * 1)) = some (Value.slice p6 n5 c6) ∧
      (newP w #[(Value.complex .f64 t17r t17m)] 55 fun b9 w38 =>
        appP w38 p6 n5 c6 1 (CellsO w38 (some ⟨b9, 0, none⟩)) 55 1 16 #[(Value.complex .f64 0 0)] fun p7 c7 w39 =>
        chk (decide (0 ≤ t14)) (
          chk (decide (t14 < (8 : Int))) (
            (w39.cell? ((⟨t12, 16, none⟩ : Addr).add (t14.toNat * 1))).isSome = true ∧ w39.frozen? ((⟨t12, 16, none⟩ : Addr).add (t14.toNat * 1)) = false ∧ ∀ w40, w40 = w39.setCell ((⟨t12, 16, none⟩ : Addr).add (t14.toNat * 1)) (Value.slice p7 (n5 + 1) c7) →
            (C3 t0p t0n t0c t2 t3 t6 t7p t7n t7c t11 t12 (IntKind.i64.wrap (t13 + 2)) t14 (IntKind.i64.wrap (t15 + 1)) t82 t83 t84p t84n t84c t85 t86 w40))))))
def stopcockref13_Decode.b3 (t0p : Option Addr) (t0n : Nat) (t0c : Nat) (t2 : Nat) (t3 : Nat) (t6 : Nat) (t7p : Option Addr) (t7n : Nat) (t7c : Nat) (t11 : Nat) (t12 : Nat) (t13 : Int) (t14 : Int) (t15 : Int) (t82 : Int) (t83 : Int) (t84p : Option Addr) (t84n : Nat) (t84c : Nat) (t85 : Int) (t86 : Bool) (w : World) (R : Ending → World → Prop) (C2 : Option Addr → Nat → Nat → Nat → Nat → Nat → Option Addr → Nat → Nat → Nat → Nat → Int → Int → World → Prop) (C3 : Option Addr → Nat → Nat → Nat → Nat → Nat → Option Addr → Nat → Nat → Nat → Nat → Int → Int → Int → Int → Int → Option Addr → Nat → Nat → Int → Bool → World → Prop) : Prop :=
  chk (decide (0 ≤ t14)) (
    chk (decide (t14 < (8 : Int))) (
      ∃ (x11 : Int), w.cell? (((⟨t12, 0, none⟩ : Addr).add (t14.toNat * 2)).add 1) = some (Value.int .i64 x11) ∧
      (cond (decide (t15 < x11)) (
          cond (decide ((IntKind.i64.wrap (t13 + 2)) ≤ ((t7n : Nat) : Int))) (
            callP Try.prog 18 #[(Value.slice t7p t7n t7c), (Value.int .i64 t13), (Value.int .i64 2)] w (fun v9 w34 =>
              dI .i64 v9 fun x12 =>
              cond (decide (x12 > 0)) (
                ∃ (x13 : Int), w34.cell? (⟨t11, 1, none⟩ : Addr) = some (Value.int .i64 x13) ∧
                (callP Try.prog 19 #[(Value.int .i64 (IntKind.i64.wrap (x12 - 1))), (Value.int .i64 x13)] w34 (fun v10 w36 =>
                    dT v10 fun vs2 =>
                    optP (vs2[0]?) fun v11 =>
                    dC v11 fun r1 m1 =>
                    optP (vs2[1]?) fun v12 =>
                    dI .i64 v12 fun x14 =>
                    stopcockref13_Decode.k4 t0p t0n t0c t2 t3 t6 t7p t7n t7c t11 t12 t13 t14 t15 r1 m1 t82 t83 t84p t84n t84c t85 t86 t13 (IntKind.i64.wrap (t13 + 2)) t7p t7n t7c ((t7n : Nat) : Int) (decide ((IntKind.i64.wrap (t13 + 2)) ≤ ((t7n : Nat) : Int))) w36 R C2 C3) (fun ch w37 => R (.panicked ch) w37))) (
                stopcockref13_Decode.k4 t0p t0n t0c t2 t3 t6 t7p t7n t7c t11 t12 t13 t14 t15 13830554455654793216 0 t82 t83 t84p t84n t84c t85 t86 t13 (IntKind.i64.wrap (t13 + 2)) t7p t7n t7c ((t7n : Nat) : Int) (decide ((IntKind.i64.wrap (t13 + 2)) ≤ ((t7n : Nat) : Int))) w34 R C2 C3)) (fun ch w35 => R (.panicked ch) w35)) (
            C2 t0p t0n t0c t2 t3 t6 t7p t7n t7c t11 t12 t13 (IntKind.i64.wrap (t14 + 1)) w)) (
          C2 t0p t0n t0c t2 t3 t6 t7p t7n t7c t11 t12 t13 (IntKind.i64.wrap (t14 + 1)) w))))
def stopcockref13_Decode.l3 (t0p : Option Addr) (t0n : Nat) (t0c : Nat) (t2 : Nat) (t3 : Nat) (t6 : Nat) (t7p : Option Addr) (t7n : Nat) (t7c : Nat) (t11 : Nat) (t12 : Nat) (t13 : Int) (t14 : Int) (t15 : Int) (t82 : Int) (t83 : Int) (t84p : Option Addr) (t84n : Nat) (t84c : Nat) (t85 : Int) (t86 : Bool) (w : World) (R : Ending → World → Prop) (C2 : Option Addr → Nat → Nat → Nat → Nat → Nat → Option Addr → Nat → Nat → Nat → Nat → Int → Int → World → Prop) : Prop :=
  ∃ (I : Option Addr → Nat → Nat → Nat → Nat → Nat → Option Addr → Nat → Nat → Nat → Nat → Int → Int → Int → Int → Int → Option Addr → Nat → Nat → Int → Bool → World → Prop) (m : Option Addr → Nat → Nat → Nat → Nat → Nat → Option Addr → Nat → Nat → Nat → Nat → Int → Int → Int → Int → Int → Option Addr → Nat → Nat → Int → Bool → World → Nat), I t0p t0n t0c t2 t3 t6 t7p t7n t7c t11 t12 t13 t14 t15 t82 t83 t84p t84n t84c t85 t86 w ∧
  ∀ (t0p : Option Addr) (t0n : Nat) (t0c : Nat) (t2 : Nat) (t3 : Nat) (t6 : Nat) (t7p : Option Addr) (t7n : Nat) (t7c : Nat) (t11 : Nat) (t12 : Nat) (t13 : Int) (t14 : Int) (t15 : Int) (t82 : Int) (t83 : Int) (t84p : Option Addr) (t84n : Nat) (t84c : Nat) (t85 : Int) (t86 : Bool) (w : World), I t0p t0n t0c t2 t3 t6 t7p t7n t7c t11 t12 t13 t14 t15 t82 t83 t84p t84n t84c t85 t86 w →
  stopcockref13_Decode.b3 t0p t0n t0c t2 t3 t6 t7p t7n t7c t11 t12 t13 t14 t15 t82 t83 t84p t84n t84c t85 t86 w R C2 (fun t0p' t0n' t0c' t2' t3' t6' t7p' t7n' t7c' t11' t12' t13' t14' t15' t82' t83' t84p' t84n' t84c' t85' t86' w' => I t0p' t0n' t0c' t2' t3' t6' t7p' t7n' t7c' t11' t12' t13' t14' t15' t82' t83' t84p' t84n' t84c' t85' t86' w' ∧ m t0p' t0n' t0c' t2' t3' t6' t7p' t7n' t7c' t11' t12' t13' t14' t15' t82' t83' t84p' t84n' t84c' t85' t86' w' < m t0p t0n t0c t2 t3 t6 t7p t7n t7c t11 t12 t13 t14 t15 t82 t83 t84p t84n t84c t85 t86 w)
def stopcockref13_Decode.k6 (t2 : Nat) (t3 : Nat) (t11 : Nat) (t12 : Nat) (t18 : Int) (w : World) (R : Ending → World → Prop) : Prop :=
  ∃ (cs21 : Array Value), cs21.size = 24 ∧ CellsAt w.drew (⟨t12, 0, none⟩ : Addr) cs21.toList ∧
  (∃ (cs22 : Array Value), cs22.size = 2 ∧ CellsAt w.drew (⟨t11, 0, none⟩ : Addr) cs22.toList ∧
    (chk (decide (cs21.size = 24)) (
        Wr w.drew (⟨t2, 0, none⟩ : Addr) cs21.toList ∧ ∀ w51, w51 = w.drew.setCells (⟨t2, 0, none⟩ : Addr).block (⟨t2, 0, none⟩ : Addr).off cs21.toList →
        (chk (decide (cs22.size = 2)) (
            CellsAt w51 (⟨t11, 0, none⟩ : Addr) cs22.toList ∧
            (chk (decide (cs22.size = 2)) (
                Wr w51 (⟨t3, 0, none⟩ : Addr) cs22.toList ∧ ∀ w52, w52 = w51.setCells (⟨t3, 0, none⟩ : Addr).block (⟨t3, 0, none⟩ : Addr).off cs22.toList →
                (∃ (cs23 : Array Value), cs23.size = 24 ∧ CellsAt w52 (⟨t2, 0, none⟩ : Addr) cs23.toList ∧
                  (∃ (cs24 : Array Value), cs24.size = 2 ∧ CellsAt w52 (⟨t3, 0, none⟩ : Addr) cs24.toList ∧
                    (R (.returned (Value.tuple #[(Value.agg cs23), (Value.agg cs24), (Value.int .i64 t18), (Value.int .i64 0)])) w52))))))))))
def stopcockref13_Decode.b4 (t0p : Option Addr) (t0n : Nat) (t0c : Nat) (t2 : Nat) (t3 : Nat) (t6 : Nat) (t11 : Nat) (t12 : Nat) (t18 : Int) (t19p : Option Addr) (t19n : Nat) (t19c : Nat) (t21 : Int) (w : World) (R : Ending → World → Prop) (C4 : Option Addr → Nat → Nat → Nat → Nat → Nat → Nat → Nat → Int → Option Addr → Nat → Nat → Int → World → Prop) : Prop :=
  cond (decide (t21 < ((t19n : Nat) : Int))) (
    chk (decide (0 ≤ t21)) (
      chk (decide (t21 < ((t19n : Nat) : Int))) (
        optP t19p fun d9 =>
        ∃ (p10 : Option Addr) (n8 : Nat) (c10 : Nat), w.cell? (d9.add (t21.toNat * 1)) = some (Value.slice p10 n8 c10) ∧
        (∃ (ns1 : List Int), ns1.length = n8 ∧ CellsO w p10 (ns1.map (Value.int .u8)) ∧
          (chk (decide (0 ≤ t21)) (
              chk (decide (t21 < ((t0n : Nat) : Int))) (
                optP t0p fun d10 =>
                ∃ (p11 : Option Addr) (n9 : Nat) (c11 : Nat), w.cell? (d10.add (t21.toNat * 1)) = some (Value.slice p11 n9 c11) ∧
                (∃ (ns2 : List Int), ns2.length = n9 ∧ CellsO w p11 (ns2.map (Value.int .u8)) ∧
                  (∀ k1 : Nat,
                    cond (!((strOf ns1).toList == (strOf ns2).toList)) (
                      ∃ (cs18 : Array Value), cs18.size = 24 ∧ CellsAt (w.drewN k1) (⟨t6, 0, none⟩ : Addr) cs18.toList ∧
                      (chk (decide (cs18.size = 24)) (
                          Wr (w.drewN k1) (⟨t2, 0, none⟩ : Addr) cs18.toList ∧ ∀ w49, w49 = (w.drewN k1).setCells (⟨t2, 0, none⟩ : Addr).block (⟨t2, 0, none⟩ : Addr).off cs18.toList →
                          (Wr w49 (⟨t3, 0, none⟩ : Addr) [(Value.int .i64 0), (Value.int .i64 0)] ∧ ∀ w50, w50 = w49.setCells (⟨t3, 0, none⟩ : Addr).block (⟨t3, 0, none⟩ : Addr).off [(Value.int .i64 0), (Value.int .i64 0)] →
                          (∃ (cs19 : Array Value), cs19.size = 24 ∧ CellsAt w50 (⟨t2, 0, none⟩ : Addr) cs19.toList ∧
                          (∃ (cs20 : Array Value), cs20.size = 2 ∧ CellsAt w50 (⟨t3, 0, none⟩ : Addr) cs20.toList ∧
                          (R (.returned (Value.tuple #[(Value.agg cs19), (Value.agg cs20), (Value.int .i64 0), (Value.int .i64 11)])) w50))))))) (
                      C4 t0p t0n t0c t2 t3 t6 t11 t12 t18 t19p t19n t19c (IntKind.i64.wrap (t21 + 1)) (w.drewN k1))))))))))) (
    stopcockref13_Decode.k6 t2 t3 t11 t12 t18 w R)
def stopcockref13_Decode.l4 (t0p : Option Addr) (t0n : Nat) (t0c : Nat) (t2 : Nat) (t3 : Nat) (t6 : Nat) (t11 : Nat) (t12 : Nat) (t18 : Int) (t19p : Option Addr) (t19n : Nat) (t19c : Nat) (t21 : Int) (w : World) (R : Ending → World → Prop) : Prop :=
  ∃ (I : Option Addr → Nat → Nat → Nat → Nat → Nat → Nat → Nat → Int → Option Addr → Nat → Nat → Int → World → Prop) (m : Option Addr → Nat → Nat → Nat → Nat → Nat → Nat → Nat → Int → Option Addr → Nat → Nat → Int → World → Nat), I t0p t0n t0c t2 t3 t6 t11 t12 t18 t19p t19n t19c t21 w ∧
  ∀ (t0p : Option Addr) (t0n : Nat) (t0c : Nat) (t2 : Nat) (t3 : Nat) (t6 : Nat) (t11 : Nat) (t12 : Nat) (t18 : Int) (t19p : Option Addr) (t19n : Nat) (t19c : Nat) (t21 : Int) (w : World), I t0p t0n t0c t2 t3 t6 t11 t12 t18 t19p t19n t19c t21 w →
  stopcockref13_Decode.b4 t0p t0n t0c t2 t3 t6 t11 t12 t18 t19p t19n t19c t21 w R (fun t0p' t0n' t0c' t2' t3' t6' t11' t12' t18' t19p' t19n' t19c' t21' w' => I t0p' t0n' t0c' t2' t3' t6' t11' t12' t18' t19p' t19n' t19c' t21' w' ∧ m t0p' t0n' t0c' t2' t3' t6' t11' t12' t18' t19p' t19n' t19c' t21' w' < m t0p t0n t0c t2 t3 t6 t11 t12 t18 t19p t19n t19c t21 w)
def stopcockref13_Decode.k5 (t0p : Option Addr) (t0n : Nat) (t0c : Nat) (t2 : Nat) (t3 : Nat) (t6 : Nat) (t11 : Nat) (t12 : Nat) (w : World) (R : Ending → World → Prop) : Prop :=
  chk (decide (0 < ((t0n : Nat) : Int))) (
    optP t0p fun d8 =>
    ∃ (p8 : Option Addr) (n6 : Nat) (c8 : Nat), w.cell? d8 = some (Value.slice p8 n6 c8) ∧
    (callP Try.prog 18 #[(Value.slice p8 n6 c8), (Value.int .i64 4), (Value.int .i64 4)] w (fun v13 w41 =>
        dI .i64 v13 fun x15 =>
        ∃ (cs10 : Array Value), cs10.size = 24 ∧ CellsAt w41 (⟨t12, 0, none⟩ : Addr) cs10.toList ∧
        (∃ (cs11 : Array Value), cs11.size = 2 ∧ CellsAt w41 (⟨t11, 0, none⟩ : Addr) cs11.toList ∧
          (callP Try.prog 20 #[(Value.agg cs10), (Value.agg cs11), (Value.int .i64 x15)] w41 (fun v14 w43 =>
              dT v14 fun vs3 =>
              optP (vs3[0]?) fun v15 =>
              dS v15 fun p9 n7 c9 =>
              optP (vs3[1]?) fun v16 =>
              dI .i64 v16 fun x16 =>
              cond (x16 != 0) (
                ∃ (cs12 : Array Value), cs12.size = 24 ∧ CellsAt w43 (⟨t6, 0, none⟩ : Addr) cs12.toList ∧
                (chk (decide (cs12.size = 24)) (
                    Wr w43 (⟨t2, 0, none⟩ : Addr) cs12.toList ∧ ∀ w45, w45 = w43.setCells (⟨t2, 0, none⟩ : Addr).block (⟨t2, 0, none⟩ : Addr).off cs12.toList →
                    (Wr w45 (⟨t3, 0, none⟩ : Addr) [(Value.int .i64 0), (Value.int .i64 0)] ∧ ∀ w46, w46 = w45.setCells (⟨t3, 0, none⟩ : Addr).block (⟨t3, 0, none⟩ : Addr).off [(Value.int .i64 0), (Value.int .i64 0)] →
                      (∃ (cs13 : Array Value), cs13.size = 24 ∧ CellsAt w46 (⟨t2, 0, none⟩ : Addr) cs13.toList ∧
                        (∃ (cs14 : Array Value), cs14.size = 2 ∧ CellsAt w46 (⟨t3, 0, none⟩ : Addr) cs14.toList ∧
                          (R (.returned (Value.tuple #[(Value.agg cs13), (Value.agg cs14), (Value.int .i64 0), (Value.int .i64 11)])) w46))))))) (
                cond (((n7 : Nat) : Int) != ((t0n : Nat) : Int)) (
                  ∃ (cs15 : Array Value), cs15.size = 24 ∧ CellsAt w43 (⟨t6, 0, none⟩ : Addr) cs15.toList ∧
                  (chk (decide (cs15.size = 24)) (
                      Wr w43 (⟨t2, 0, none⟩ : Addr) cs15.toList ∧ ∀ w47, w47 = w43.setCells (⟨t2, 0, none⟩ : Addr).block (⟨t2, 0, none⟩ : Addr).off cs15.toList →
                      (Wr w47 (⟨t3, 0, none⟩ : Addr) [(Value.int .i64 0), (Value.int .i64 0)] ∧ ∀ w48, w48 = w47.setCells (⟨t3, 0, none⟩ : Addr).block (⟨t3, 0, none⟩ : Addr).off [(Value.int .i64 0), (Value.int .i64 0)] →
                        (∃ (cs16 : Array Value), cs16.size = 24 ∧ CellsAt w48 (⟨t2, 0, none⟩ : Addr) cs16.toList ∧
                          (∃ (cs17 : Array Value), cs17.size = 2 ∧ CellsAt w48 (⟨t3, 0, none⟩ : Addr) cs17.toList ∧
                          (R (.returned (Value.tuple #[(Value.agg cs16), (Value.agg cs17), (Value.int .i64 0), (Value.int .i64 11)])) w48))))))) (
                  stopcockref13_Decode.l4 t0p t0n t0c t2 t3 t6 t11 t12 x15 p9 n7 c9 0 w43 R))) (fun ch w44 => R (.panicked ch) w44)))) (fun ch w42 => R (.panicked ch) w42)))
def stopcockref13_Decode.b2 (t0p : Option Addr) (t0n : Nat) (t0c : Nat) (t2 : Nat) (t3 : Nat) (t6 : Nat) (t7p : Option Addr) (t7n : Nat) (t7c : Nat) (t11 : Nat) (t12 : Nat) (t13 : Int) (t14 : Int) (w : World) (R : Ending → World → Prop) (C2 : Option Addr → Nat → Nat → Nat → Nat → Nat → Option Addr → Nat → Nat → Nat → Nat → Int → Int → World → Prop) : Prop :=
  cond (decide (t14 < 8)) (
    cond (decide ((IntKind.i64.wrap (t13 + 2)) ≤ ((t7n : Nat) : Int))) (
      chk (decide (0 ≤ t13)) (
        chk (decide (t13 < ((t7n : Nat) : Int))) (
          optP t7p fun d6 =>
          ∃ (x9 : Int), w.drew.cell? (d6.add (t13.toNat * 1)) = some (Value.int .u8 x9) ∧
          (chk (decide (0 ≤ (IntKind.i64.wrap (t13 + 1)))) (
              chk (decide ((IntKind.i64.wrap (t13 + 1)) < ((t7n : Nat) : Int))) (
                optP t7p fun d7 =>
                ∃ (x10 : Int), w.drew.cell? (d7.add ((IntKind.i64.wrap (t13 + 1)).toNat * 1)) = some (Value.int .u8 x10) ∧
                (chk (decide (0 ≤ t14)) (
                    chk (decide (t14 < (8 : Int))) (
                      Wr w.drew ((⟨t12, 0, none⟩ : Addr).add (t14.toNat * 2)) [(Value.int .i64 (IntKind.i64.wrap x9)), (Value.int .i64 (IntKind.i64.wrap x10))] ∧ ∀ w33, w33 = w.drew.setCells ((⟨t12, 0, none⟩ : Addr).add (t14.toNat * 2)).block ((⟨t12, 0, none⟩ : Addr).add (t14.toNat * 2)).off [(Value.int .i64 (IntKind.i64.wrap x9)), (Value.int .i64 (IntKind.i64.wrap x10))] →
                      (stopcockref13_Decode.l3 t0p t0n t0c t2 t3 t6 t7p t7n t7c t11 t12 (IntKind.i64.wrap (t13 + 2)) t14 0 t13 (IntKind.i64.wrap (t13 + 2)) t7p t7n t7c ((t7n : Nat) : Int) (decide ((IntKind.i64.wrap (t13 + 2)) ≤ ((t7n : Nat) : Int))) w33 R C2)))))))))) (
      stopcockref13_Decode.k5 t0p t0n t0c t2 t3 t6 t11 t12 w R)) (
    stopcockref13_Decode.k5 t0p t0n t0c t2 t3 t6 t11 t12 w R)
def stopcockref13_Decode.l2 (t0p : Option Addr) (t0n : Nat) (t0c : Nat) (t2 : Nat) (t3 : Nat) (t6 : Nat) (t7p : Option Addr) (t7n : Nat) (t7c : Nat) (t11 : Nat) (t12 : Nat) (t13 : Int) (t14 : Int) (w : World) (R : Ending → World → Prop) : Prop :=
  ∃ (I : Option Addr → Nat → Nat → Nat → Nat → Nat → Option Addr → Nat → Nat → Nat → Nat → Int → Int → World → Prop) (m : Option Addr → Nat → Nat → Nat → Nat → Nat → Option Addr → Nat → Nat → Nat → Nat → Int → Int → World → Nat), I t0p t0n t0c t2 t3 t6 t7p t7n t7c t11 t12 t13 t14 w ∧
  ∀ (t0p : Option Addr) (t0n : Nat) (t0c : Nat) (t2 : Nat) (t3 : Nat) (t6 : Nat) (t7p : Option Addr) (t7n : Nat) (t7c : Nat) (t11 : Nat) (t12 : Nat) (t13 : Int) (t14 : Int) (w : World), I t0p t0n t0c t2 t3 t6 t7p t7n t7c t11 t12 t13 t14 w →
  stopcockref13_Decode.b2 t0p t0n t0c t2 t3 t6 t7p t7n t7c t11 t12 t13 t14 w R (fun t0p' t0n' t0c' t2' t3' t6' t7p' t7n' t7c' t11' t12' t13' t14' w' => I t0p' t0n' t0c' t2' t3' t6' t7p' t7n' t7c' t11' t12' t13' t14' w' ∧ m t0p' t0n' t0c' t2' t3' t6' t7p' t7n' t7c' t11' t12' t13' t14' w' < m t0p t0n t0c t2 t3 t6 t7p t7n t7c t11 t12 t13 t14 w)
def stopcockref13_Decode.k3 (t0p : Option Addr) (t0n : Nat) (t0c : Nat) (t2 : Nat) (t3 : Nat) (t6 : Nat) (t7p : Option Addr) (t7n : Nat) (t7c : Nat) (t11 : Nat) (w : World) (R : Ending → World → Prop) : Prop :=
  newP w #[(Value.int .i64 0), (Value.int .i64 0), (Value.int .i64 0), (Value.int .i64 0), (Value.int .i64 0), (Value.int .i64 0), (Value.int .i64 0), (Value.int .i64 0), (Value.int .i64 0), (Value.int .i64 0), (Value.int .i64 0), (Value.int .i64 0), (Value.int .i64 0), (Value.int .i64 0), (Value.int .i64 0), (Value.int .i64 0), (Value.slice none 0 0), (Value.slice none 0 0), (Value.slice none 0 0), (Value.slice none 0 0), (Value.slice none 0 0), (Value.slice none 0 0), (Value.slice none 0 0), (Value.slice none 0 0)] 29 fun b8 w31 =>
  Wr w31 (⟨b8, 0, none⟩ : Addr) [(Value.int .i64 0), (Value.int .i64 0), (Value.int .i64 0), (Value.int .i64 0), (Value.int .i64 0), (Value.int .i64 0), (Value.int .i64 0), (Value.int .i64 0), (Value.int .i64 0), (Value.int .i64 0), (Value.int .i64 0), (Value.int .i64 0), (Value.int .i64 0), (Value.int .i64 0), (Value.int .i64 0), (Value.int .i64 0), (Value.slice none 0 0), (Value.slice none 0 0), (Value.slice none 0 0), (Value.slice none 0 0), (Value.slice none 0 0), (Value.slice none 0 0), (Value.slice none 0 0), (Value.slice none 0 0)] ∧ ∀ w32, w32 = w31.setCells (⟨b8, 0, none⟩ : Addr).block (⟨b8, 0, none⟩ : Addr).off [(Value.int .i64 0), (Value.int .i64 0), (Value.int .i64 0), (Value.int .i64 0), (Value.int .i64 0), (Value.int .i64 0), (Value.int .i64 0), (Value.int .i64 0), (Value.int .i64 0), (Value.int .i64 0), (Value.int .i64 0), (Value.int .i64 0), (Value.int .i64 0), (Value.int .i64 0), (Value.int .i64 0), (Value.int .i64 0), (Value.slice none 0 0), (Value.slice none 0 0), (Value.slice none 0 0), (Value.slice none 0 0), (Value.slice none 0 0), (Value.slice none 0 0), (Value.slice none 0 0), (Value.slice none 0 0)] →
  (stopcockref13_Decode.l2 t0p t0n t0c t2 t3 t6 t7p t7n t7c t11 b8 0 0 w32 R)
def stopcockref13_Decode.k2 (t0p : Option Addr) (t0n : Nat) (t0c : Nat) (t2 : Nat) (t3 : Nat) (t6 : Nat) (t7p : Option Addr) (t7n : Nat) (t7c : Nat) (w : World) (R : Ending → World → Prop) : Prop :=
  chk (decide (0 < ((t0n : Nat) : Int))) (
    optP t0p fun d4 =>
    ∃ (p4 : Option Addr) (n3 : Nat) (c4 : Nat), w.drew.cell? d4 = some (Value.slice p4 n3 c4) ∧
    (chk (decide (0 < ((t0n : Nat) : Int))) (
        optP t0p fun d5 =>
        ∃ (p5 : Option Addr) (n4 : Nat) (c5 : Nat), w.drew.cell? d5 = some (Value.slice p5 n4 c5) ∧
        ((callP Try.prog 18 #[(Value.slice p4 n3 c4), (Value.int .i64 8), (Value.int .i64 1)] w.drew (fun v4 w15 =>
              dI .i64 v4 fun x4 =>
              w15.cell? d5 = some (Value.slice p5 n4 c5) ∧
              ((callP Try.prog 18 #[(Value.slice p5 n4 c5), (Value.int .i64 9), (Value.int .i64 1)] w15 (fun v5 w17 =>
                    dI .i64 v5 fun x5 =>
                    newP w17 #[(Value.int .i64 0), (Value.int .i64 0)] 31 fun b5 w19 =>
                    (Value.agg #[(Value.int .i64 x4), (Value.int .i64 x5)]) = (Value.agg #[(Value.int .i64 x4), (Value.int .i64 x5)]) ∧
                    (Wr w19 (⟨b5, 0, none⟩ : Addr) [(Value.int .i64 x4), (Value.int .i64 x5)] ∧ ∀ w20, w20 = w19.setCells (⟨b5, 0, none⟩ : Addr).block (⟨b5, 0, none⟩ : Addr).off [(Value.int .i64 x4), (Value.int .i64 x5)] →
                      (stopcockref13_Decode.k3 t0p t0n t0c t2 t3 t6 t7p t7n t7c b5 w20 R))) (fun ch w18 => R (.panicked ch) w18)) ∧
                (newP w15 #[(Value.int .i64 0), (Value.int .i64 0)] 31 fun b6 w21 =>
                  w21.cell? d5 = some (Value.slice p5 n4 c5) ∧
                  (callP Try.prog 18 #[(Value.slice p5 n4 c5), (Value.int .i64 9), (Value.int .i64 1)] w21 (fun v6 w22 =>
                      dI .i64 v6 fun x6 =>
                      Wr w22 (⟨b6, 0, none⟩ : Addr) [(Value.int .i64 x4), (Value.int .i64 x6)] ∧ ∀ w24, w24 = w22.setCells (⟨b6, 0, none⟩ : Addr).block (⟨b6, 0, none⟩ : Addr).off [(Value.int .i64 x4), (Value.int .i64 x6)] →
                      (stopcockref13_Decode.k3 t0p t0n t0c t2 t3 t6 t7p t7n t7c b6 w24 R)) (fun ch w23 => R (.panicked ch) w23))))) (fun ch w16 => R (.panicked ch) w16)) ∧
          (newP w.drew #[(Value.int .i64 0), (Value.int .i64 0)] 31 fun b7 w25 =>
            w25.cell? d5 = some (Value.slice p5 n4 c5) ∧
            (w25.cell? d4 = some (Value.slice p4 n3 c4) ∧
              (callP Try.prog 18 #[(Value.slice p4 n3 c4), (Value.int .i64 8), (Value.int .i64 1)] w25 (fun v7 w26 =>
                  dI .i64 v7 fun x7 =>
                  w26.cell? d5 = some (Value.slice p5 n4 c5) ∧
                  (callP Try.prog 18 #[(Value.slice p5 n4 c5), (Value.int .i64 9), (Value.int .i64 1)] w26 (fun v8 w28 =>
                      dI .i64 v8 fun x8 =>
                      Wr w28 (⟨b7, 0, none⟩ : Addr) [(Value.int .i64 x7), (Value.int .i64 x8)] ∧ ∀ w30, w30 = w28.setCells (⟨b7, 0, none⟩ : Addr).block (⟨b7, 0, none⟩ : Addr).off [(Value.int .i64 x7), (Value.int .i64 x8)] →
                      (stopcockref13_Decode.k3 t0p t0n t0c t2 t3 t6 t7p t7n t7c b7 w30 R)) (fun ch w29 => R (.panicked ch) w29))) (fun ch w27 => R (.panicked ch) w27))))))))
def stopcockref13_Decode.b1 (t0p : Option Addr) (t0n : Nat) (t0c : Nat) (t2 : Nat) (t3 : Nat) (t6 : Nat) (t7p : Option Addr) (t7n : Nat) (t7c : Nat) (t8 : Int) (w : World) (R : Ending → World → Prop) (C1 : Option Addr → Nat → Nat → Nat → Nat → Nat → Option Addr → Nat → Nat → Int → World → Prop) : Prop :=
  cond (decide (t8 < ((t0n : Nat) : Int))) (
    chk (decide (0 ≤ t8)) (
      chk (decide (t8 < ((t0n : Nat) : Int))) (
        optP t0p fun d1 =>
        ∃ (p1 : Option Addr) (n1 : Nat) (c1 : Nat), w.cell? (d1.add (t8.toNat * 1)) = some (Value.slice p1 n1 c1) ∧
        (callP Try.prog 17 #[(Value.slice p1 n1 c1)] w (fun v1 w10 =>
            dT v1 fun vs1 =>
            optP (vs1[0]?) fun v2 =>
            dS v2 fun p2 n2 c2 =>
            optP (vs1[1]?) fun v3 =>
            dI .i64 v3 fun x1 =>
            cond (x1 != 0) (
              ∃ (cs7 : Array Value), cs7.size = 24 ∧ CellsAt w10 (⟨t6, 0, none⟩ : Addr) cs7.toList ∧
              (chk (decide (cs7.size = 24)) (
                  Wr w10 (⟨t2, 0, none⟩ : Addr) cs7.toList ∧ ∀ w12, w12 = w10.setCells (⟨t2, 0, none⟩ : Addr).block (⟨t2, 0, none⟩ : Addr).off cs7.toList →
                  (Wr w12 (⟨t3, 0, none⟩ : Addr) [(Value.int .i64 0), (Value.int .i64 0)] ∧ ∀ w13, w13 = w12.setCells (⟨t3, 0, none⟩ : Addr).block (⟨t3, 0, none⟩ : Addr).off [(Value.int .i64 0), (Value.int .i64 0)] →
                    (∃ (cs8 : Array Value), cs8.size = 24 ∧ CellsAt w13 (⟨t2, 0, none⟩ : Addr) cs8.toList ∧
                      (∃ (cs9 : Array Value), cs9.size = 2 ∧ CellsAt w13 (⟨t3, 0, none⟩ : Addr) cs9.toList ∧
                        (R (.returned (Value.tuple #[(Value.agg cs8), (Value.agg cs9), (Value.int .i64 0), (Value.int .i64 11)])) w13))))))) (
              cond (decide (t8 > 0)) (
                chk (decide (5 < ((n2 : Nat) : Int))) (
                  optP p2 fun d2 =>
                  ∃ (x2 : Int), w10.cell? (d2.add 5) = some (Value.int .u8 x2) ∧
                  (stopcockref13_Decode.k1 t0p t0n t0c t2 t3 t6 t7p t7n t7c t8 p2 n2 c2 (decide (x2 ≤ 52)) w10 R C1))) (
                stopcockref13_Decode.k1 t0p t0n t0c t2 t3 t6 t7p t7n t7c t8 p2 n2 c2 false w10 R C1))) (fun ch w11 => R (.panicked ch) w11))))) (
    stopcockref13_Decode.k2 t0p t0n t0c t2 t3 t6 t7p t7n t7c w R)
def stopcockref13_Decode.l1 (t0p : Option Addr) (t0n : Nat) (t0c : Nat) (t2 : Nat) (t3 : Nat) (t6 : Nat) (t7p : Option Addr) (t7n : Nat) (t7c : Nat) (t8 : Int) (w : World) (R : Ending → World → Prop) : Prop :=
  ∃ (I : Option Addr → Nat → Nat → Nat → Nat → Nat → Option Addr → Nat → Nat → Int → World → Prop) (m : Option Addr → Nat → Nat → Nat → Nat → Nat → Option Addr → Nat → Nat → Int → World → Nat), I t0p t0n t0c t2 t3 t6 t7p t7n t7c t8 w ∧
  ∀ (t0p : Option Addr) (t0n : Nat) (t0c : Nat) (t2 : Nat) (t3 : Nat) (t6 : Nat) (t7p : Option Addr) (t7n : Nat) (t7c : Nat) (t8 : Int) (w : World), I t0p t0n t0c t2 t3 t6 t7p t7n t7c t8 w →
  stopcockref13_Decode.b1 t0p t0n t0c t2 t3 t6 t7p t7n t7c t8 w R (fun t0p' t0n' t0c' t2' t3' t6' t7p' t7n' t7c' t8' w' => I t0p' t0n' t0c' t2' t3' t6' t7p' t7n' t7c' t8' w' ∧ m t0p' t0n' t0c' t2' t3' t6' t7p' t7n' t7c' t8' w' < m t0p t0n t0c t2 t3 t6 t7p t7n t7c t8 w)
def stopcockref13_Decode.main (a0p : Option Addr) (a0n : Nat) (a0c : Nat) (w : World) (R : Ending → World → Prop) : Prop :=
  newP w #[(Value.int .i64 0), (Value.int .i64 0), (Value.int .i64 0), (Value.int .i64 0), (Value.int .i64 0), (Value.int .i64 0), (Value.int .i64 0), (Value.int .i64 0), (Value.int .i64 0), (Value.int .i64 0), (Value.int .i64 0), (Value.int .i64 0), (Value.int .i64 0), (Value.int .i64 0), (Value.int .i64 0), (Value.int .i64 0), (Value.slice none 0 0), (Value.slice none 0 0), (Value.slice none 0 0), (Value.slice none 0 0), (Value.slice none 0 0), (Value.slice none 0 0), (Value.slice none 0 0), (Value.slice none 0 0)] 29 fun b1 w1 =>
  newP w1 #[(Value.int .i64 0), (Value.int .i64 0)] 31 fun b2 w2 =>
  newP w2 #[(Value.int .i64 0), (Value.int .i64 0), (Value.int .i64 0), (Value.int .i64 0), (Value.int .i64 0), (Value.int .i64 0), (Value.int .i64 0), (Value.int .i64 0), (Value.int .i64 0), (Value.int .i64 0), (Value.int .i64 0), (Value.int .i64 0), (Value.int .i64 0), (Value.int .i64 0), (Value.int .i64 0), (Value.int .i64 0), (Value.slice none 0 0), (Value.slice none 0 0), (Value.slice none 0 0), (Value.slice none 0 0), (Value.slice none 0 0), (Value.slice none 0 0), (Value.slice none 0 0), (Value.slice none 0 0)] 29 fun b3 w3 =>
  Wr w3 (⟨b3, 0, none⟩ : Addr) [(Value.int .i64 0), (Value.int .i64 0), (Value.int .i64 0), (Value.int .i64 0), (Value.int .i64 0), (Value.int .i64 0), (Value.int .i64 0), (Value.int .i64 0), (Value.int .i64 0), (Value.int .i64 0), (Value.int .i64 0), (Value.int .i64 0), (Value.int .i64 0), (Value.int .i64 0), (Value.int .i64 0), (Value.int .i64 0), (Value.slice none 0 0), (Value.slice none 0 0), (Value.slice none 0 0), (Value.slice none 0 0), (Value.slice none 0 0), (Value.slice none 0 0), (Value.slice none 0 0), (Value.slice none 0 0)] ∧ ∀ w4, w4 = w3.setCells (⟨b3, 0, none⟩ : Addr).block (⟨b3, 0, none⟩ : Addr).off [(Value.int .i64 0), (Value.int .i64 0), (Value.int .i64 0), (Value.int .i64 0), (Value.int .i64 0), (Value.int .i64 0), (Value.int .i64 0), (Value.int .i64 0), (Value.int .i64 0), (Value.int .i64 0), (Value.int .i64 0), (Value.int .i64 0), (Value.int .i64 0), (Value.int .i64 0), (Value.int .i64 0), (Value.int .i64 0), (Value.slice none 0 0), (Value.slice none 0 0), (Value.slice none 0 0), (Value.slice none 0 0), (Value.slice none 0 0), (Value.slice none 0 0), (Value.slice none 0 0), (Value.slice none 0 0)] →
  (cond (decide (((a0n : Nat) : Int) < 2)) (
      ∃ (cs1 : Array Value), cs1.size = 24 ∧ CellsAt w4 (⟨b3, 0, none⟩ : Addr) cs1.toList ∧
      (chk (decide (cs1.size = 24)) (
          Wr w4 (⟨b1, 0, none⟩ : Addr) cs1.toList ∧ ∀ w5, w5 = w4.setCells (⟨b1, 0, none⟩ : Addr).block (⟨b1, 0, none⟩ : Addr).off cs1.toList →
          (Wr w5 (⟨b2, 0, none⟩ : Addr) [(Value.int .i64 0), (Value.int .i64 0)] ∧ ∀ w6, w6 = w5.setCells (⟨b2, 0, none⟩ : Addr).block (⟨b2, 0, none⟩ : Addr).off [(Value.int .i64 0), (Value.int .i64 0)] →
            (∃ (cs2 : Array Value), cs2.size = 24 ∧ CellsAt w6 (⟨b1, 0, none⟩ : Addr) cs2.toList ∧
              (∃ (cs3 : Array Value), cs3.size = 2 ∧ CellsAt w6 (⟨b2, 0, none⟩ : Addr) cs3.toList ∧
                (R (.returned (Value.tuple #[(Value.agg cs2), (Value.agg cs3), (Value.int .i64 0), (Value.int .i64 11)])) w6))))))) (
      cond (decide (((a0n : Nat) : Int) > 12)) (
        ∃ (cs4 : Array Value), cs4.size = 24 ∧ CellsAt w4 (⟨b3, 0, none⟩ : Addr) cs4.toList ∧
        (chk (decide (cs4.size = 24)) (
            Wr w4 (⟨b1, 0, none⟩ : Addr) cs4.toList ∧ ∀ w7, w7 = w4.setCells (⟨b1, 0, none⟩ : Addr).block (⟨b1, 0, none⟩ : Addr).off cs4.toList →
            (Wr w7 (⟨b2, 0, none⟩ : Addr) [(Value.int .i64 0), (Value.int .i64 0)] ∧ ∀ w8, w8 = w7.setCells (⟨b2, 0, none⟩ : Addr).block (⟨b2, 0, none⟩ : Addr).off [(Value.int .i64 0), (Value.int .i64 0)] →
              (∃ (cs5 : Array Value), cs5.size = 24 ∧ CellsAt w8 (⟨b1, 0, none⟩ : Addr) cs5.toList ∧
                (∃ (cs6 : Array Value), cs6.size = 2 ∧ CellsAt w8 (⟨b2, 0, none⟩ : Addr) cs6.toList ∧
                  (R (.returned (Value.tuple #[(Value.agg cs5), (Value.agg cs6), (Value.int .i64 0), (Value.int .i64 11)])) w8))))))) (
        newP w4 #[] 5 fun b4 w9 =>
        stopcockref13_Decode.l1 a0p a0n a0c b1 b2 b3 (some ⟨b4, 0, none⟩) 0 0 0 w9 R)))
abbrev stopcockref13_Decode.C (a0p : Option Addr) (a0n : Nat) (a0c : Nat) (w : World) (R : Ending → World → Prop) : Prop := Calls Try.prog 6 #[(Value.slice a0p a0n a0c)] w R
noncomputable def stopcockref13_Decode.code : Code := (Try.f6.body).getD .skip
noncomputable def stopcockref13_Decode.sk (R : Ending → World → Prop) : Sk := (.seq .leaf (.seq .leaf (.seq .leaf (.seq .leaf (.cut [(0, .slice), (2, .blk), (3, .blk), (6, .blk), (7, .slice)] (fun (t0p : Option Addr) (t0n : Nat) (t0c : Nat) (t2 : Nat) (t3 : Nat) (t6 : Nat) (t7p : Option Addr) (t7n : Nat) (t7c : Nat) (w : World) => stopcockref13_Decode.k2 t0p t0n t0c t2 t3 t6 t7p t7n t7c w R) (.seq .leaf (.block (.loop [(0, .slice), (2, .blk), (3, .blk), (6, .blk), (7, .slice), (8, .int .i64)] (fun (t0p : Option Addr) (t0n : Nat) (t0c : Nat) (t2 : Nat) (t3 : Nat) (t6 : Nat) (t7p : Option Addr) (t7n : Nat) (t7c : Nat) (t8 : Int) (w : World) => stopcockref13_Decode.l1 t0p t0n t0c t2 t3 t6 t7p t7n t7c t8 w R) (fun (C1 : Option Addr → Nat → Nat → Nat → Nat → Nat → Option Addr → Nat → Nat → Int → World → Prop) => (.seq .leaf (.seq (.block (.seq .leaf (.seq .leaf (.cut [(0, .slice), (2, .blk), (3, .blk), (6, .blk), (7, .slice), (8, .int .i64), (9, .slice), (59, .bool)] (fun (t0p : Option Addr) (t0n : Nat) (t0c : Nat) (t2 : Nat) (t3 : Nat) (t6 : Nat) (t7p : Option Addr) (t7n : Nat) (t7c : Nat) (t8 : Int) (t9p : Option Addr) (t9n : Nat) (t9c : Nat) (t59 : Bool) (w : World) => stopcockref13_Decode.k1 t0p t0n t0c t2 t3 t6 t7p t7n t7c t8 t9p t9n t9c t59 w R C1) .leaf .leaf)))) .leaf)))))) (.cut [(0, .slice), (2, .blk), (3, .blk), (6, .blk), (7, .slice), (11, .blk)] (fun (t0p : Option Addr) (t0n : Nat) (t0c : Nat) (t2 : Nat) (t3 : Nat) (t6 : Nat) (t7p : Option Addr) (t7n : Nat) (t7c : Nat) (t11 : Nat) (w : World) => stopcockref13_Decode.k3 t0p t0n t0c t2 t3 t6 t7p t7n t7c t11 w R) .leaf (.seq .leaf (.seq .leaf (.cut [(0, .slice), (2, .blk), (3, .blk), (6, .blk), (11, .blk), (12, .blk)] (fun (t0p : Option Addr) (t0n : Nat) (t0c : Nat) (t2 : Nat) (t3 : Nat) (t6 : Nat) (t11 : Nat) (t12 : Nat) (w : World) => stopcockref13_Decode.k5 t0p t0n t0c t2 t3 t6 t11 t12 w R) (.seq .leaf (.block (.loop [(0, .slice), (2, .blk), (3, .blk), (6, .blk), (7, .slice), (11, .blk), (12, .blk), (13, .int .i64), (14, .int .i64)] (fun (t0p : Option Addr) (t0n : Nat) (t0c : Nat) (t2 : Nat) (t3 : Nat) (t6 : Nat) (t7p : Option Addr) (t7n : Nat) (t7c : Nat) (t11 : Nat) (t12 : Nat) (t13 : Int) (t14 : Int) (w : World) => stopcockref13_Decode.l2 t0p t0n t0c t2 t3 t6 t7p t7n t7c t11 t12 t13 t14 w R) (fun (C2 : Option Addr → Nat → Nat → Nat → Nat → Nat → Option Addr → Nat → Nat → Nat → Nat → Int → Int → World → Prop) => (.seq .leaf (.seq (.block (.seq .leaf (.seq .leaf (.seq .leaf (.block (.loop [(0, .slice), (2, .blk), (3, .blk), (6, .blk), (7, .slice), (11, .blk), (12, .blk), (13, .int .i64), (14, .int .i64), (15, .int .i64), (82, .int .i64), (83, .int .i64), (84, .slice), (85, .int .i64), (86, .bool)] (fun (t0p : Option Addr) (t0n : Nat) (t0c : Nat) (t2 : Nat) (t3 : Nat) (t6 : Nat) (t7p : Option Addr) (t7n : Nat) (t7c : Nat) (t11 : Nat) (t12 : Nat) (t13 : Int) (t14 : Int) (t15 : Int) (t82 : Int) (t83 : Int) (t84p : Option Addr) (t84n : Nat) (t84c : Nat) (t85 : Int) (t86 : Bool) (w : World) => stopcockref13_Decode.l3 t0p t0n t0c t2 t3 t6 t7p t7n t7c t11 t12 t13 t14 t15 t82 t83 t84p t84n t84c t85 t86 w R C2) (fun (C3 : Option Addr → Nat → Nat → Nat → Nat → Nat → Option Addr → Nat → Nat → Nat → Nat → Int → Int → Int → Int → Int → Option Addr → Nat → Nat → Int → Bool → World → Prop) => (.seq .leaf (.seq (.block (.seq .leaf (.seq .leaf (.cut [(0, .slice), (2, .blk), (3, .blk), (6, .blk), (7, .slice), (11, .blk), (12, .blk), (13, .int .i64), (14, .int .i64), (15, .int .i64), (17, .cpx), (82, .int .i64), (83, .int .i64), (84, .slice), (85, .int .i64), (86, .bool), (115, .int .i64), (116, .int .i64), (117, .slice), (118, .int .i64), (119, .bool)] (fun (t0p : Option Addr) (t0n : Nat) (t0c : Nat) (t2 : Nat) (t3 : Nat) (t6 : Nat) (t7p : Option Addr) (t7n : Nat) (t7c : Nat) (t11 : Nat) (t12 : Nat) (t13 : Int) (t14 : Int) (t15 : Int) (t17r : Nat) (t17m : Nat) (t82 : Int) (t83 : Int) (t84p : Option Addr) (t84n : Nat) (t84c : Nat) (t85 : Int) (t86 : Bool) (t115 : Int) (t116 : Int) (t117p : Option Addr) (t117n : Nat) (t117c : Nat) (t118 : Int) (t119 : Bool) (w : World) => stopcockref13_Decode.k4 t0p t0n t0c t2 t3 t6 t7p t7n t7c t11 t12 t13 t14 t15 t17r t17m t82 t83 t84p t84n t84c t85 t86 t115 t116 t117p t117n t117c t118 t119 w R C2 C3) .leaf .leaf)))) .leaf))))))))) .leaf)))))) (.seq .leaf (.seq .leaf (.seq .leaf (.cut [(2, .blk), (3, .blk), (11, .blk), (12, .blk), (18, .int .i64)] (fun (t2 : Nat) (t3 : Nat) (t11 : Nat) (t12 : Nat) (t18 : Int) (w : World) => stopcockref13_Decode.k6 t2 t3 t11 t12 t18 w R) (.seq .leaf (.block (.loop [(0, .slice), (2, .blk), (3, .blk), (6, .blk), (11, .blk), (12, .blk), (18, .int .i64), (19, .slice), (21, .int .i64)] (fun (t0p : Option Addr) (t0n : Nat) (t0c : Nat) (t2 : Nat) (t3 : Nat) (t6 : Nat) (t11 : Nat) (t12 : Nat) (t18 : Int) (t19p : Option Addr) (t19n : Nat) (t19c : Nat) (t21 : Int) (w : World) => stopcockref13_Decode.l4 t0p t0n t0c t2 t3 t6 t11 t12 t18 t19p t19n t19c t21 w R) (fun (C4 : Option Addr → Nat → Nat → Nat → Nat → Nat → Nat → Nat → Int → Option Addr → Nat → Nat → Int → World → Prop) => .leaf)))) .leaf)))))))))))))
def stopcockref13_Decode.owed (R : Ending → World → Prop) : Prop :=
  (∀ (t0p : Option Addr) (t0n : Nat) (t0c : Nat) (t2 : Nat) (t3 : Nat) (t6 : Nat) (t7p : Option Addr) (t7n : Nat) (t7c : Nat) (t8 : Int) (w : World), stopcockref13_Decode.l1 t0p t0n t0c t2 t3 t6 t7p t7n t7c t8 w R → stopcockref13_Decode.l1 t0p t0n t0c t2 t3 t6 t7p t7n t7c t8 w R) ∧ (∀ (C1 : Option Addr → Nat → Nat → Nat → Nat → Nat → Option Addr → Nat → Nat → Int → World → Prop), (∀ (t0p : Option Addr) (t0n : Nat) (t0c : Nat) (t2 : Nat) (t3 : Nat) (t6 : Nat) (t7p : Option Addr) (t7n : Nat) (t7c : Nat) (t8 : Int) (t9p : Option Addr) (t9n : Nat) (t9c : Nat) (t59 : Bool) (w : World), stopcockref13_Decode.k1 t0p t0n t0c t2 t3 t6 t7p t7n t7c t8 t9p t9n t9c t59 w R C1 → stopcockref13_Decode.k1 t0p t0n t0c t2 t3 t6 t7p t7n t7c t8 t9p t9n t9c t59 w R C1) ∧ True) ∧ (∀ (t0p : Option Addr) (t0n : Nat) (t0c : Nat) (t2 : Nat) (t3 : Nat) (t6 : Nat) (t7p : Option Addr) (t7n : Nat) (t7c : Nat) (w : World), stopcockref13_Decode.k2 t0p t0n t0c t2 t3 t6 t7p t7n t7c w R → stopcockref13_Decode.k2 t0p t0n t0c t2 t3 t6 t7p t7n t7c w R) ∧ (∀ (t0p : Option Addr) (t0n : Nat) (t0c : Nat) (t2 : Nat) (t3 : Nat) (t6 : Nat) (t7p : Option Addr) (t7n : Nat) (t7c : Nat) (t11 : Nat) (w : World), stopcockref13_Decode.k3 t0p t0n t0c t2 t3 t6 t7p t7n t7c t11 w R → stopcockref13_Decode.k3 t0p t0n t0c t2 t3 t6 t7p t7n t7c t11 w R) ∧ (∀ (t0p : Option Addr) (t0n : Nat) (t0c : Nat) (t2 : Nat) (t3 : Nat) (t6 : Nat) (t7p : Option Addr) (t7n : Nat) (t7c : Nat) (t11 : Nat) (t12 : Nat) (t13 : Int) (t14 : Int) (w : World), stopcockref13_Decode.l2 t0p t0n t0c t2 t3 t6 t7p t7n t7c t11 t12 t13 t14 w R → stopcockref13_Decode.l2 t0p t0n t0c t2 t3 t6 t7p t7n t7c t11 t12 t13 t14 w R) ∧ (∀ (C2 : Option Addr → Nat → Nat → Nat → Nat → Nat → Option Addr → Nat → Nat → Nat → Nat → Int → Int → World → Prop), (∀ (t0p : Option Addr) (t0n : Nat) (t0c : Nat) (t2 : Nat) (t3 : Nat) (t6 : Nat) (t7p : Option Addr) (t7n : Nat) (t7c : Nat) (t11 : Nat) (t12 : Nat) (t13 : Int) (t14 : Int) (t15 : Int) (t82 : Int) (t83 : Int) (t84p : Option Addr) (t84n : Nat) (t84c : Nat) (t85 : Int) (t86 : Bool) (w : World), stopcockref13_Decode.l3 t0p t0n t0c t2 t3 t6 t7p t7n t7c t11 t12 t13 t14 t15 t82 t83 t84p t84n t84c t85 t86 w R C2 → stopcockref13_Decode.l3 t0p t0n t0c t2 t3 t6 t7p t7n t7c t11 t12 t13 t14 t15 t82 t83 t84p t84n t84c t85 t86 w R C2) ∧ (∀ (C3 : Option Addr → Nat → Nat → Nat → Nat → Nat → Option Addr → Nat → Nat → Nat → Nat → Int → Int → Int → Int → Int → Option Addr → Nat → Nat → Int → Bool → World → Prop), (∀ (t0p : Option Addr) (t0n : Nat) (t0c : Nat) (t2 : Nat) (t3 : Nat) (t6 : Nat) (t7p : Option Addr) (t7n : Nat) (t7c : Nat) (t11 : Nat) (t12 : Nat) (t13 : Int) (t14 : Int) (t15 : Int) (t17r : Nat) (t17m : Nat) (t82 : Int) (t83 : Int) (t84p : Option Addr) (t84n : Nat) (t84c : Nat) (t85 : Int) (t86 : Bool) (t115 : Int) (t116 : Int) (t117p : Option Addr) (t117n : Nat) (t117c : Nat) (t118 : Int) (t119 : Bool) (w : World), stopcockref13_Decode.k4 t0p t0n t0c t2 t3 t6 t7p t7n t7c t11 t12 t13 t14 t15 t17r t17m t82 t83 t84p t84n t84c t85 t86 t115 t116 t117p t117n t117c t118 t119 w R C2 C3 → stopcockref13_Decode.k4 t0p t0n t0c t2 t3 t6 t7p t7n t7c t11 t12 t13 t14 t15 t17r t17m t82 t83 t84p t84n t84c t85 t86 t115 t116 t117p t117n t117c t118 t119 w R C2 C3) ∧ True) ∧ True) ∧ (∀ (t0p : Option Addr) (t0n : Nat) (t0c : Nat) (t2 : Nat) (t3 : Nat) (t6 : Nat) (t11 : Nat) (t12 : Nat) (w : World), stopcockref13_Decode.k5 t0p t0n t0c t2 t3 t6 t11 t12 w R → stopcockref13_Decode.k5 t0p t0n t0c t2 t3 t6 t11 t12 w R) ∧ (∀ (t0p : Option Addr) (t0n : Nat) (t0c : Nat) (t2 : Nat) (t3 : Nat) (t6 : Nat) (t11 : Nat) (t12 : Nat) (t18 : Int) (t19p : Option Addr) (t19n : Nat) (t19c : Nat) (t21 : Int) (w : World), stopcockref13_Decode.l4 t0p t0n t0c t2 t3 t6 t11 t12 t18 t19p t19n t19c t21 w R → stopcockref13_Decode.l4 t0p t0n t0c t2 t3 t6 t11 t12 t18 t19p t19n t19c t21 w R) ∧ (∀ (C4 : Option Addr → Nat → Nat → Nat → Nat → Nat → Nat → Nat → Int → Option Addr → Nat → Nat → Int → World → Prop), True) ∧ (∀ (t2 : Nat) (t3 : Nat) (t11 : Nat) (t12 : Nat) (t18 : Int) (w : World), stopcockref13_Decode.k6 t2 t3 t11 t12 t18 w R → stopcockref13_Decode.k6 t2 t3 t11 t12 t18 w R) ∧ True
theorem stopcockref13_Decode.pays (R : Ending → World → Prop) : stopcockref13_Decode.owed R := ⟨(fun _ _ _ _ _ _ _ _ _ _ _ h => h), (fun _ => ⟨(fun _ _ _ _ _ _ _ _ _ _ _ _ _ _ _ h => h), trivial⟩), (fun _ _ _ _ _ _ _ _ _ _ h => h), (fun _ _ _ _ _ _ _ _ _ _ _ h => h), (fun _ _ _ _ _ _ _ _ _ _ _ _ _ _ h => h), (fun _ => ⟨(fun _ _ _ _ _ _ _ _ _ _ _ _ _ _ _ _ _ _ _ _ _ _ h => h), (fun _ => ⟨(fun _ _ _ _ _ _ _ _ _ _ _ _ _ _ _ _ _ _ _ _ _ _ _ _ _ _ _ _ _ _ _ h => h), trivial⟩), trivial⟩), (fun _ _ _ _ _ _ _ _ _ h => h), (fun _ _ _ _ _ _ _ _ _ _ _ _ _ _ h => h), (fun _ => trivial), (fun _ _ _ _ _ _ h => h), trivial⟩
set_option maxRecDepth 100000 in
theorem stopcockref13_Decode.ok {a0p : Option Addr} {a0n : Nat} {a0c : Nat} {w : World} {R : Ending → World → Prop} (h : stopcockref13_Decode.main a0p a0n a0c w R) : stopcockref13_Decode.C a0p a0n a0c w R :=
  ev_ok cxok (c := cx) Try.func6 (code := stopcockref13_Decode.code) (by kernel_rfl) [.cell 2 29, .cell 3 31, .tmp 4, .tmp 5] (by kernel_rfl) 192 (by kernel_rfl) (stopcockref13_Decode.sk R) (args := [(Value.slice a0p a0n a0c)]) (Nat.le_of_ble_eq_true rfl) (by kernel_rfl) (o := stopcockref13_Decode.owed R) (by kernel_rfl) (stopcockref13_Decode.pays R) h

/-! ### stopcock/stopcockref07.Same: function 8 -/
def stopcockref07_Same.b1 (t2 : Nat) (t3 : Nat) (t5 : Int) (w : World) (R : Ending → World → Prop) (C1 : Nat → Nat → Int → World → Prop) : Prop :=
  cond (decide (t5 < 8)) (
    chk (decide (0 ≤ t5)) (
      chk (decide (t5 < (8 : Int))) (
        ∃ (cs1 : Array Value), cs1.size = 2 ∧ CellsAt w.drew ((⟨t2, 0, none⟩ : Addr).add (t5.toNat * 2)) cs1.toList ∧
        (chk (decide (0 ≤ t5)) (
            chk (decide (t5 < (8 : Int))) (
              ∃ (cs2 : Array Value), cs2.size = 2 ∧ CellsAt w.drew ((⟨t3, 0, none⟩ : Addr).add (t5.toNat * 2)) cs2.toList ∧
              (∃ (b3 : Bool), eqRun Try.prog .neq 24 (.tmp 13) (.tmp 17) (Value.agg cs1) (Value.agg cs2) b3 ∧
                (cond b3 (
                    R (.returned (Value.bool false)) w.drew) (
                    chk (decide (0 ≤ t5)) (
                      chk (decide (t5 < (8 : Int))) (
                        ∃ (p1 : Option Addr) (n1 : Nat) (c1 : Nat), w.drew.cell? ((⟨t2, 16, none⟩ : Addr).add (t5.toNat * 1)) = some (Value.slice p1 n1 c1) ∧
                        (chk (decide (0 ≤ t5)) (
                          chk (decide (t5 < (8 : Int))) (
                          ∃ (p2 : Option Addr) (n2 : Nat) (c2 : Nat), w.drew.cell? ((⟨t3, 16, none⟩ : Addr).add (t5.toNat * 1)) = some (Value.slice p2 n2 c2) ∧
                          (callP Try.prog 22 #[(Value.slice p1 n1 c1), (Value.slice p2 n2 c2)] w.drew (fun v1 w3 =>
                          dB v1 fun b4 =>
                          cond (!b4) (
                          R (.returned (Value.bool false)) w3) (
                          C1 t2 t3 (IntKind.i64.wrap (t5 + 1)) w3)) (fun ch w4 => R (.panicked ch) w4)))))))))))))))) (
    R (.returned (Value.bool true)) w)
def stopcockref07_Same.l1 (t2 : Nat) (t3 : Nat) (t5 : Int) (w : World) (R : Ending → World → Prop) : Prop :=
  ∃ (I : Nat → Nat → Int → World → Prop) (m : Nat → Nat → Int → World → Nat), I t2 t3 t5 w ∧
  ∀ (t2 : Nat) (t3 : Nat) (t5 : Int) (w : World), I t2 t3 t5 w →
  stopcockref07_Same.b1 t2 t3 t5 w R (fun t2' t3' t5' w' => I t2' t3' t5' w' ∧ m t2' t3' t5' w' < m t2 t3 t5 w)
def stopcockref07_Same.main (a0 : Array Value) (a1 : Array Value) (w : World) (R : Ending → World → Prop) : Prop :=
  newP w a0 29 fun b1 w1 =>
  newP w1 a1 29 fun b2 w2 =>
  stopcockref07_Same.l1 b1 b2 0 w2 R
abbrev stopcockref07_Same.C (a0 : Array Value) (a1 : Array Value) (w : World) (R : Ending → World → Prop) : Prop := Calls Try.prog 8 #[(Value.agg a0), (Value.agg a1)] w R
noncomputable def stopcockref07_Same.code : Code := (Try.f8.body).getD .skip
noncomputable def stopcockref07_Same.sk (R : Ending → World → Prop) : Sk := (.seq .leaf (.seq (.seq .leaf (.block (.loop [(2, .blk), (3, .blk), (5, .int .i64)] (fun (t2 : Nat) (t3 : Nat) (t5 : Int) (w : World) => stopcockref07_Same.l1 t2 t3 t5 w R) (fun (C1 : Nat → Nat → Int → World → Prop) => .leaf)))) .leaf))
def stopcockref07_Same.owed (R : Ending → World → Prop) : Prop :=
  (∀ (t2 : Nat) (t3 : Nat) (t5 : Int) (w : World), stopcockref07_Same.l1 t2 t3 t5 w R → stopcockref07_Same.l1 t2 t3 t5 w R) ∧ (∀ (C1 : Nat → Nat → Int → World → Prop), True) ∧ True
theorem stopcockref07_Same.pays (R : Ending → World → Prop) : stopcockref07_Same.owed R := ⟨(fun _ _ _ _ h => h), (fun _ => trivial), trivial⟩
set_option maxRecDepth 100000 in
theorem stopcockref07_Same.ok {a0 : Array Value} {a1 : Array Value} {w : World} {R : Ending → World → Prop} (h : stopcockref07_Same.main a0 a1 w R) : stopcockref07_Same.C a0 a1 w R :=
  ev_ok cxok (c := cx) Try.func8 (code := stopcockref07_Same.code) (by kernel_rfl) [.tmp 4] (by kernel_rfl) 31 (by kernel_rfl) (stopcockref07_Same.sk R) (args := [(Value.agg a0), (Value.agg a1)]) (Nat.le_of_ble_eq_true rfl) (by kernel_rfl) (o := stopcockref07_Same.owed R) (by kernel_rfl) (stopcockref07_Same.pays R) h

/-! ### stopcock/stopcockref01.Place: function 19 -/
def stopcockref01_Place.main (a0 : Int) (a1 : Int) (w : World) (R : Ending → World → Prop) : Prop :=
  cond (decide (a1 < 1)) (
    R (.returned (Value.tuple #[(Value.complex .f64 0 0), (Value.int .i64 1)])) w) (
    cond (decide (a1 > 16)) (
      R (.returned (Value.tuple #[(Value.complex .f64 0 0), (Value.int .i64 1)])) w) (
      cond (decide (a0 < 0)) (
        R (.returned (Value.tuple #[(Value.complex .f64 0 0), (Value.int .i64 5)])) w) (
        cond (decide (a0 ≥ (IntKind.i64.wrap (24 * a1)))) (
          R (.returned (Value.tuple #[(Value.complex .f64 0 0), (Value.int .i64 5)])) w) (
          chk (decide (a1 ≠ 0)) (
            chk (decide (a1 ≠ 0)) (
              callP Try.prog 38 #[(Value.int .i64 (IntKind.i64.wrap (Int.tdiv a0 a1))), (Value.int .i64 (Int.tmod a0 a1))] w.drew (fun v1 w1 =>
                dC v1 fun r1 m1 =>
                R (.returned (Value.tuple #[(Value.complex .f64 r1 m1), (Value.int .i64 0)])) w1) (fun ch w2 => R (.panicked ch) w2)))))))
abbrev stopcockref01_Place.C (a0 : Int) (a1 : Int) (w : World) (R : Ending → World → Prop) : Prop := Calls Try.prog 19 #[(Value.int .i64 a0), (Value.int .i64 a1)] w R
noncomputable def stopcockref01_Place.code : Code := (Try.f19.body).getD .skip
noncomputable def stopcockref01_Place.sk (R : Ending → World → Prop) : Sk := .leaf
def stopcockref01_Place.owed (R : Ending → World → Prop) : Prop :=
  True
theorem stopcockref01_Place.pays (R : Ending → World → Prop) : stopcockref01_Place.owed R := trivial
set_option maxRecDepth 100000 in
theorem stopcockref01_Place.ok {a0 : Int} {a1 : Int} {w : World} {R : Ending → World → Prop} (h : stopcockref01_Place.main a0 a1 w R) : stopcockref01_Place.C a0 a1 w R :=
  ev_ok cxok (c := cx) Try.func19 (code := stopcockref01_Place.code) (by kernel_rfl) [.tmp 4, .tmp 5] (by kernel_rfl) 27 (by kernel_rfl) (stopcockref01_Place.sk R) (args := [(Value.int .i64 a0), (Value.int .i64 a1)]) (Nat.le_of_ble_eq_true rfl) (by kernel_rfl) (o := stopcockref01_Place.owed R) (by kernel_rfl) (stopcockref01_Place.pays R) h

/-! ### stopcock/stopcockref13.Encode: function 20 -/
def stopcockref13_Encode.b2 (t2 : Int) (t3 : Nat) (t4 : Nat) (t9p : Option Addr) (t9n : Nat) (t9c : Nat) (t10 : Int) (t11 : Int) (w : World) (R : Ending → World → Prop) (C1 : Int → Nat → Nat → Option Addr → Nat → Nat → Int → World → Prop) (C2 : Int → Nat → Nat → Option Addr → Nat → Nat → Int → Int → World → Prop) : Prop :=
  chk (decide (0 ≤ t10)) (
    chk (decide (t10 < (8 : Int))) (
      ∃ (p3 : Option Addr) (n3 : Nat) (c3 : Nat), w.cell? ((⟨t3, 16, none⟩ : Addr).add (t10.toNat * 1)) = some (Value.slice p3 n3 c3) ∧
      (cond (decide (t11 < ((n3 : Nat) : Int))) (
          chk (decide (0 ≤ t10)) (
            chk (decide (t10 < (8 : Int))) (
              ∃ (p4 : Option Addr) (n4 : Nat) (c4 : Nat), w.cell? ((⟨t3, 16, none⟩ : Addr).add (t10.toNat * 1)) = some (Value.slice p4 n4 c4) ∧
              (chk (decide (0 ≤ t11)) (
                  chk (decide (t11 < ((n4 : Nat) : Int))) (
                    optP p4 fun d1 =>
                    ∃ (r1 : Nat) (m1 : Nat), w.cell? (d1.add (t11.toNat * 1)) = some (Value.complex .f64 r1 m1) ∧
                    (cond (!(fCmp .eql r1 13830554455654793216 && fCmp .eql m1 0)) (
                        chk (decide (0 ≤ t10)) (
                          chk (decide (t10 < (8 : Int))) (
                          ∃ (p5 : Option Addr) (n5 : Nat) (c5 : Nat), w.drew.cell? ((⟨t3, 16, none⟩ : Addr).add (t10.toNat * 1)) = some (Value.slice p5 n5 c5) ∧
                          (chk (decide (0 ≤ t11)) (
                          chk (decide (t11 < ((n5 : Nat) : Int))) (
                          optP p5 fun d2 =>
                          ∃ (r2 : Nat) (m2 : Nat), w.drew.cell? (d2.add (t11.toNat * 1)) = some (Value.complex .f64 r2 m2) ∧
                          (∃ (x4 : Int), w.drew.cell? (⟨t4, 1, none⟩ : Addr) = some (Value.int .i64 x4) ∧
                          (callP Try.prog 41 #[(Value.complex .f64 r2 m2), (Value.int .i64 x4)] w.drew (fun v4 w10 =>
                          dT v4 fun vs1 =>
                          optP (vs1[0]?) fun v5 =>
                          dI .i64 v5 fun x5 =>
                          optP (vs1[1]?) fun v6 =>
                          dI .i64 v6 fun x6 =>
                          callP Try.prog 40 #[(Value.slice t9p t9n t9c), (Value.int .i64 2), (Value.int .i64 (IntKind.i64.wrap (x5 + 1)))] w10 (fun v7 w12 =>
                          dS v7 fun p6 n6 c6 =>
                          C2 t2 t3 t4 p6 n6 c6 t10 (IntKind.i64.wrap (t11 + 1)) w12) (fun ch w13 => R (.panicked ch) w13)) (fun ch w11 => R (.panicked ch) w11))))))))) (
                        callP Try.prog 40 #[(Value.slice t9p t9n t9c), (Value.int .i64 2), (Value.int .i64 0)] w (fun v8 w14 =>
                          dS v8 fun p7 n7 c7 =>
                          C2 t2 t3 t4 p7 n7 c7 t10 (IntKind.i64.wrap (t11 + 1)) w14) (fun ch w15 => R (.panicked ch) w15))))))))) (
          C1 t2 t3 t4 t9p t9n t9c (IntKind.i64.wrap (t10 + 1)) w))))
def stopcockref13_Encode.l2 (t2 : Int) (t3 : Nat) (t4 : Nat) (t9p : Option Addr) (t9n : Nat) (t9c : Nat) (t10 : Int) (t11 : Int) (w : World) (R : Ending → World → Prop) (C1 : Int → Nat → Nat → Option Addr → Nat → Nat → Int → World → Prop) : Prop :=
  ∃ (I : Int → Nat → Nat → Option Addr → Nat → Nat → Int → Int → World → Prop) (m : Int → Nat → Nat → Option Addr → Nat → Nat → Int → Int → World → Nat), I t2 t3 t4 t9p t9n t9c t10 t11 w ∧
  ∀ (t2 : Int) (t3 : Nat) (t4 : Nat) (t9p : Option Addr) (t9n : Nat) (t9c : Nat) (t10 : Int) (t11 : Int) (w : World), I t2 t3 t4 t9p t9n t9c t10 t11 w →
  stopcockref13_Encode.b2 t2 t3 t4 t9p t9n t9c t10 t11 w R C1 (fun t2' t3' t4' t9p' t9n' t9c' t10' t11' w' => I t2' t3' t4' t9p' t9n' t9c' t10' t11' w' ∧ m t2' t3' t4' t9p' t9n' t9c' t10' t11' w' < m t2 t3 t4 t9p t9n t9c t10 t11 w)
def stopcockref13_Encode.k2 (t2 : Int) (t9p : Option Addr) (t9n : Nat) (t9c : Nat) (t13 : Int) (t17p : Option Addr) (t17n : Nat) (t17c : Nat) (t18 : Int) (t19p : Option Addr) (t19n : Nat) (t19c : Nat) (w : World) (R : Ending → World → Prop) (C3 : Int → Option Addr → Nat → Nat → Int → Option Addr → Nat → Nat → Int → World → Prop) : Prop :=
  callP Try.prog 40 #[(Value.slice none 0 0), (Value.int .i64 4), (Value.int .i64 t2)] w (fun v19 w35 =>
    dS v19 fun p16 n15 c16 =>
    callP Try.prog 40 #[(Value.slice p16 n15 c16), (Value.int .i64 1), (Value.int .i64 t18)] w35 (fun v20 w37 =>
      dS v20 fun p17 n16 c17 =>
      callP Try.prog 40 #[(Value.slice p17 n16 c17), (Value.int .i64 1), (Value.int .i64 ((t19n : Nat) : Int))] w37 (fun v21 w39 =>
        dS v21 fun p18 n17 c18 =>
        appP w39 p18 n17 c18 t19n (CellsO w39 t19p) 5 1 1 #[(Value.int .u8 0)] fun p19 c19 w41 =>
        callP Try.prog 36 #[(Value.slice p19 (n17 + t19n) c19)] w41 (fun v22 w42 =>
          dT v22 fun vs3 =>
          optP (vs3[0]?) fun v23 =>
          dS v23 fun p20 n18 c20 =>
          optP (vs3[1]?) fun v24 =>
          dI .i64 v24 fun x11 =>
          newP w42 #[(Value.slice p20 n18 c20)] 38 fun b6 w44 =>
          appP w44 t17p t17n t17c 1 (CellsO w44 (some ⟨b6, 0, none⟩)) 38 1 24 #[(Value.slice none 0 0)] fun p21 c21 w45 =>
          C3 t2 t9p t9n t9c t13 p21 (t17n + 1) c21 (IntKind.i64.wrap (t18 + 1)) w45) (fun ch w43 => R (.panicked ch) w43)) (fun ch w40 => R (.panicked ch) w40)) (fun ch w38 => R (.panicked ch) w38)) (fun ch w36 => R (.panicked ch) w36)
def stopcockref13_Encode.b3 (t2 : Int) (t9p : Option Addr) (t9n : Nat) (t9c : Nat) (t13 : Int) (t17p : Option Addr) (t17n : Nat) (t17c : Nat) (t18 : Int) (w : World) (R : Ending → World → Prop) (C3 : Int → Option Addr → Nat → Nat → Int → Option Addr → Nat → Nat → Int → World → Prop) : Prop :=
  cond (decide (t18 < t13)) (
    chk (decide (0 ≤ (IntKind.i64.wrap (52 * t18)))) (
      chk (decide ((IntKind.i64.wrap (52 * t18)) ≤ ((t9n : Nat) : Int))) (
        cond (decide ((((t9n - (IntKind.i64.wrap (52 * t18)).toNat) : Nat) : Int) > 52)) (
          chk (decide (52 ≤ (((t9c - (IntKind.i64.wrap (52 * t18)).toNat) : Nat) : Int))) (
            stopcockref13_Encode.k2 t2 t9p t9n t9c t13 t17p t17n t17c t18 (slA (slA t9p t9c ((IntKind.i64.wrap (52 * t18)).toNat) 1) (t9c - (IntKind.i64.wrap (52 * t18)).toNat) 0 1) 52 (t9c - (IntKind.i64.wrap (52 * t18)).toNat) w R C3)) (
          stopcockref13_Encode.k2 t2 t9p t9n t9c t13 t17p t17n t17c t18 (slA t9p t9c ((IntKind.i64.wrap (52 * t18)).toNat) 1) (t9n - (IntKind.i64.wrap (52 * t18)).toNat) (t9c - (IntKind.i64.wrap (52 * t18)).toNat) w R C3)))) (
    R (.returned (Value.tuple #[(Value.slice t17p t17n t17c), (Value.int .i64 0)])) w)
def stopcockref13_Encode.l3 (t2 : Int) (t9p : Option Addr) (t9n : Nat) (t9c : Nat) (t13 : Int) (t17p : Option Addr) (t17n : Nat) (t17c : Nat) (t18 : Int) (w : World) (R : Ending → World → Prop) : Prop :=
  ∃ (I : Int → Option Addr → Nat → Nat → Int → Option Addr → Nat → Nat → Int → World → Prop) (m : Int → Option Addr → Nat → Nat → Int → Option Addr → Nat → Nat → Int → World → Nat), I t2 t9p t9n t9c t13 t17p t17n t17c t18 w ∧
  ∀ (t2 : Int) (t9p : Option Addr) (t9n : Nat) (t9c : Nat) (t13 : Int) (t17p : Option Addr) (t17n : Nat) (t17c : Nat) (t18 : Int) (w : World), I t2 t9p t9n t9c t13 t17p t17n t17c t18 w →
  stopcockref13_Encode.b3 t2 t9p t9n t9c t13 t17p t17n t17c t18 w R (fun t2' t9p' t9n' t9c' t13' t17p' t17n' t17c' t18' w' => I t2' t9p' t9n' t9c' t13' t17p' t17n' t17c' t18' w' ∧ m t2' t9p' t9n' t9c' t13' t17p' t17n' t17c' t18' w' < m t2 t9p t9n t9c t13 t17p t17n t17c t18 w)
def stopcockref13_Encode.k1 (t2 : Int) (t4 : Nat) (t9p : Option Addr) (t9n : Nat) (t9c : Nat) (w : World) (R : Ending → World → Prop) : Prop :=
  ∃ (x7 : Int), w.drew.cell? (⟨t4, 0, none⟩ : Addr) = some (Value.int .i64 x7) ∧
  (∃ (x8 : Int), w.drew.cell? (⟨t4, 1, none⟩ : Addr) = some (Value.int .i64 x8) ∧
    (newP w.drew #[] 5 fun b4 w16 =>
      w16.cell? (⟨t4, 1, none⟩ : Addr) = some (Value.int .i64 x8) ∧
      (w16.cell? (⟨t4, 0, none⟩ : Addr) = some (Value.int .i64 x7) ∧
        (appP w16 (some ⟨b4, 0, none⟩) 0 0 (⟨#[83, 76, 65, 84]⟩ : ByteArray).size (fun xs => xs = byteVals (⟨#[83, 76, 65, 84]⟩ : ByteArray)) 5 1 1 #[(Value.int .u8 0)] fun p8 c8 w17 =>
          w17.cell? (⟨t4, 1, none⟩ : Addr) = some (Value.int .i64 x8) ∧
          (w17.cell? (⟨t4, 0, none⟩ : Addr) = some (Value.int .i64 x7) ∧
            (callP Try.prog 40 #[(Value.slice p8 (0 + (⟨#[83, 76, 65, 84]⟩ : ByteArray).size) c8), (Value.int .i64 4), (Value.int .i64 t2)] w17 (fun v9 w18 =>
                dS v9 fun p9 n8 c9 =>
                w18.cell? (⟨t4, 1, none⟩ : Addr) = some (Value.int .i64 x8) ∧
                (w18.cell? (⟨t4, 0, none⟩ : Addr) = some (Value.int .i64 x7) ∧
                  (callP Try.prog 40 #[(Value.slice p9 n8 c9), (Value.int .i64 1), (Value.int .i64 x7)] w18 (fun v10 w20 =>
                      dS v10 fun p10 n9 c10 =>
                      w20.cell? (⟨t4, 1, none⟩ : Addr) = some (Value.int .i64 x8) ∧
                      (callP Try.prog 40 #[(Value.slice p10 n9 c10), (Value.int .i64 1), (Value.int .i64 x8)] w20 (fun v11 w22 =>
                          dS v11 fun p11 n10 c11 =>
                          callP Try.prog 40 #[(Value.slice p11 n10 c11), (Value.int .i64 1), (Value.int .i64 (IntKind.i64.wrap (Int.tdiv (IntKind.i64.wrap (((t9n : Nat) : Int) + 51)) 52)))] w22 (fun v12 w24 =>
                          dS v12 fun p12 n11 c12 =>
                          callP Try.prog 40 #[(Value.slice p12 n11 c12), (Value.int .i64 2), (Value.int .i64 ((t9n : Nat) : Int))] w24 (fun v13 w26 =>
                          dS v13 fun p13 n12 c13 =>
                          callP Try.prog 42 #[(Value.slice t9p t9n t9c)] w26 (fun v14 w28 =>
                          dI .u32 v14 fun x9 =>
                          callP Try.prog 40 #[(Value.slice p13 n12 c13), (Value.int .i64 4), (Value.int .i64 (IntKind.i64.wrap x9))] w28 (fun v15 w30 =>
                          dS v15 fun p14 n13 c14 =>
                          callP Try.prog 36 #[(Value.slice p14 n13 c14)] w30 (fun v16 w32 =>
                          dT v16 fun vs2 =>
                          optP (vs2[0]?) fun v17 =>
                          dS v17 fun p15 n14 c15 =>
                          optP (vs2[1]?) fun v18 =>
                          dI .i64 v18 fun x10 =>
                          newP w32 #[(Value.slice p15 n14 c15)] 38 fun b5 w34 =>
                          stopcockref13_Encode.l3 t2 t9p t9n t9c (IntKind.i64.wrap (Int.tdiv (IntKind.i64.wrap (((t9n : Nat) : Int) + 51)) 52)) (some ⟨b5, 0, none⟩) 1 1 0 w34 R) (fun ch w33 => R (.panicked ch) w33)) (fun ch w31 => R (.panicked ch) w31)) (fun ch w29 => R (.panicked ch) w29)) (fun ch w27 => R (.panicked ch) w27)) (fun ch w25 => R (.panicked ch) w25)) (fun ch w23 => R (.panicked ch) w23))) (fun ch w21 => R (.panicked ch) w21)))) (fun ch w19 => R (.panicked ch) w19)))))))
def stopcockref13_Encode.b1 (t2 : Int) (t3 : Nat) (t4 : Nat) (t9p : Option Addr) (t9n : Nat) (t9c : Nat) (t10 : Int) (w : World) (R : Ending → World → Prop) (C1 : Int → Nat → Nat → Option Addr → Nat → Nat → Int → World → Prop) : Prop :=
  cond (decide (t10 < 8)) (
    chk (decide (0 ≤ t10)) (
      chk (decide (t10 < (8 : Int))) (
        ∃ (x2 : Int), w.drew.cell? ((⟨t3, 0, none⟩ : Addr).add (t10.toNat * 2)) = some (Value.int .i64 x2) ∧
        (chk (decide (0 ≤ t10)) (
            chk (decide (t10 < (8 : Int))) (
              ∃ (x3 : Int), w.drew.cell? (((⟨t3, 0, none⟩ : Addr).add (t10.toNat * 2)).add 1) = some (Value.int .i64 x3) ∧
              (callP Try.prog 40 #[(Value.slice t9p t9n t9c), (Value.int .i64 1), (Value.int .i64 x2)] w.drew (fun v2 w6 =>
                  dS v2 fun p1 n1 c1 =>
                  w6.cell? (((⟨t3, 0, none⟩ : Addr).add (t10.toNat * 2)).add 1) = some (Value.int .i64 x3) ∧
                  (callP Try.prog 40 #[(Value.slice p1 n1 c1), (Value.int .i64 1), (Value.int .i64 x3)] w6 (fun v3 w8 =>
                      dS v3 fun p2 n2 c2 =>
                      stopcockref13_Encode.l2 t2 t3 t4 p2 n2 c2 t10 0 w8 R C1) (fun ch w9 => R (.panicked ch) w9))) (fun ch w7 => R (.panicked ch) w7)))))))) (
    stopcockref13_Encode.k1 t2 t4 t9p t9n t9c w R)
def stopcockref13_Encode.l1 (t2 : Int) (t3 : Nat) (t4 : Nat) (t9p : Option Addr) (t9n : Nat) (t9c : Nat) (t10 : Int) (w : World) (R : Ending → World → Prop) : Prop :=
  ∃ (I : Int → Nat → Nat → Option Addr → Nat → Nat → Int → World → Prop) (m : Int → Nat → Nat → Option Addr → Nat → Nat → Int → World → Nat), I t2 t3 t4 t9p t9n t9c t10 w ∧
  ∀ (t2 : Int) (t3 : Nat) (t4 : Nat) (t9p : Option Addr) (t9n : Nat) (t9c : Nat) (t10 : Int) (w : World), I t2 t3 t4 t9p t9n t9c t10 w →
  stopcockref13_Encode.b1 t2 t3 t4 t9p t9n t9c t10 w R (fun t2' t3' t4' t9p' t9n' t9c' t10' w' => I t2' t3' t4' t9p' t9n' t9c' t10' w' ∧ m t2' t3' t4' t9p' t9n' t9c' t10' w' < m t2 t3 t4 t9p t9n t9c t10 w)
def stopcockref13_Encode.main (a0 : Array Value) (a1_0 : Int) (a1_1 : Int) (a2 : Int) (w : World) (R : Ending → World → Prop) : Prop :=
  newP w a0 29 fun b1 w1 =>
  newP w1 #[(Value.int .i64 a1_0), (Value.int .i64 a1_1)] 31 fun b2 w2 =>
  cond (decide (a2 < 1)) (
    R (.returned (Value.tuple #[(Value.slice none 0 0), (Value.int .i64 1)])) w2) (
    cond (decide (a2 > 1073741824)) (
      R (.returned (Value.tuple #[(Value.slice none 0 0), (Value.int .i64 1)])) w2) (
      ∃ (cs1 : Array Value), cs1.size = 24 ∧ CellsAt w2 (⟨b1, 0, none⟩ : Addr) cs1.toList ∧
      (∃ (cs2 : Array Value), cs2.size = 2 ∧ CellsAt w2 (⟨b2, 0, none⟩ : Addr) cs2.toList ∧
        (callP Try.prog 39 #[(Value.agg cs1), (Value.agg cs2)] w2 (fun v1 w3 =>
            dI .i64 v1 fun x1 =>
            cond (x1 != 0) (
              R (.returned (Value.tuple #[(Value.slice none 0 0), (Value.int .i64 x1)])) w3) (
              newP w3 #[] 5 fun b3 w5 =>
              stopcockref13_Encode.l1 a2 b1 b2 (some ⟨b3, 0, none⟩) 0 0 0 w5 R)) (fun ch w4 => R (.panicked ch) w4)))))
abbrev stopcockref13_Encode.C (a0 : Array Value) (a1_0 : Int) (a1_1 : Int) (a2 : Int) (w : World) (R : Ending → World → Prop) : Prop := Calls Try.prog 20 #[(Value.agg a0), (Value.agg #[(Value.int .i64 a1_0), (Value.int .i64 a1_1)]), (Value.int .i64 a2)] w R
noncomputable def stopcockref13_Encode.code : Code := (Try.f20.body).getD .skip
noncomputable def stopcockref13_Encode.sk (R : Ending → World → Prop) : Sk := (.seq .leaf (.seq .leaf (.seq .leaf (.seq .leaf (.seq .leaf (.cut [(2, .int .i64), (4, .blk), (9, .slice)] (fun (t2 : Int) (t4 : Nat) (t9p : Option Addr) (t9n : Nat) (t9c : Nat) (w : World) => stopcockref13_Encode.k1 t2 t4 t9p t9n t9c w R) (.seq .leaf (.block (.loop [(2, .int .i64), (3, .blk), (4, .blk), (9, .slice), (10, .int .i64)] (fun (t2 : Int) (t3 : Nat) (t4 : Nat) (t9p : Option Addr) (t9n : Nat) (t9c : Nat) (t10 : Int) (w : World) => stopcockref13_Encode.l1 t2 t3 t4 t9p t9n t9c t10 w R) (fun (C1 : Int → Nat → Nat → Option Addr → Nat → Nat → Int → World → Prop) => (.seq .leaf (.seq (.block (.seq .leaf (.seq .leaf (.block (.loop [(2, .int .i64), (3, .blk), (4, .blk), (9, .slice), (10, .int .i64), (11, .int .i64)] (fun (t2 : Int) (t3 : Nat) (t4 : Nat) (t9p : Option Addr) (t9n : Nat) (t9c : Nat) (t10 : Int) (t11 : Int) (w : World) => stopcockref13_Encode.l2 t2 t3 t4 t9p t9n t9c t10 t11 w R C1) (fun (C2 : Int → Nat → Nat → Option Addr → Nat → Nat → Int → Int → World → Prop) => .leaf)))))) .leaf)))))) (.seq .leaf (.seq .leaf (.seq .leaf (.seq .leaf (.seq .leaf (.seq (.seq .leaf (.block (.loop [(2, .int .i64), (9, .slice), (13, .int .i64), (17, .slice), (18, .int .i64)] (fun (t2 : Int) (t9p : Option Addr) (t9n : Nat) (t9c : Nat) (t13 : Int) (t17p : Option Addr) (t17n : Nat) (t17c : Nat) (t18 : Int) (w : World) => stopcockref13_Encode.l3 t2 t9p t9n t9c t13 t17p t17n t17c t18 w R) (fun (C3 : Int → Option Addr → Nat → Nat → Int → Option Addr → Nat → Nat → Int → World → Prop) => (.seq .leaf (.seq (.block (.seq .leaf (.cut [(2, .int .i64), (9, .slice), (13, .int .i64), (17, .slice), (18, .int .i64), (19, .slice)] (fun (t2 : Int) (t9p : Option Addr) (t9n : Nat) (t9c : Nat) (t13 : Int) (t17p : Option Addr) (t17n : Nat) (t17c : Nat) (t18 : Int) (t19p : Option Addr) (t19n : Nat) (t19c : Nat) (w : World) => stopcockref13_Encode.k2 t2 t9p t9n t9c t13 t17p t17n t17c t18 t19p t19n t19c w R C3) .leaf .leaf))) .leaf)))))) .leaf))))))))))))
def stopcockref13_Encode.owed (R : Ending → World → Prop) : Prop :=
  (∀ (t2 : Int) (t3 : Nat) (t4 : Nat) (t9p : Option Addr) (t9n : Nat) (t9c : Nat) (t10 : Int) (w : World), stopcockref13_Encode.l1 t2 t3 t4 t9p t9n t9c t10 w R → stopcockref13_Encode.l1 t2 t3 t4 t9p t9n t9c t10 w R) ∧ (∀ (C1 : Int → Nat → Nat → Option Addr → Nat → Nat → Int → World → Prop), (∀ (t2 : Int) (t3 : Nat) (t4 : Nat) (t9p : Option Addr) (t9n : Nat) (t9c : Nat) (t10 : Int) (t11 : Int) (w : World), stopcockref13_Encode.l2 t2 t3 t4 t9p t9n t9c t10 t11 w R C1 → stopcockref13_Encode.l2 t2 t3 t4 t9p t9n t9c t10 t11 w R C1) ∧ (∀ (C2 : Int → Nat → Nat → Option Addr → Nat → Nat → Int → Int → World → Prop), True) ∧ True) ∧ (∀ (t2 : Int) (t4 : Nat) (t9p : Option Addr) (t9n : Nat) (t9c : Nat) (w : World), stopcockref13_Encode.k1 t2 t4 t9p t9n t9c w R → stopcockref13_Encode.k1 t2 t4 t9p t9n t9c w R) ∧ (∀ (t2 : Int) (t9p : Option Addr) (t9n : Nat) (t9c : Nat) (t13 : Int) (t17p : Option Addr) (t17n : Nat) (t17c : Nat) (t18 : Int) (w : World), stopcockref13_Encode.l3 t2 t9p t9n t9c t13 t17p t17n t17c t18 w R → stopcockref13_Encode.l3 t2 t9p t9n t9c t13 t17p t17n t17c t18 w R) ∧ (∀ (C3 : Int → Option Addr → Nat → Nat → Int → Option Addr → Nat → Nat → Int → World → Prop), (∀ (t2 : Int) (t9p : Option Addr) (t9n : Nat) (t9c : Nat) (t13 : Int) (t17p : Option Addr) (t17n : Nat) (t17c : Nat) (t18 : Int) (t19p : Option Addr) (t19n : Nat) (t19c : Nat) (w : World), stopcockref13_Encode.k2 t2 t9p t9n t9c t13 t17p t17n t17c t18 t19p t19n t19c w R C3 → stopcockref13_Encode.k2 t2 t9p t9n t9c t13 t17p t17n t17c t18 t19p t19n t19c w R C3) ∧ True) ∧ True
theorem stopcockref13_Encode.pays (R : Ending → World → Prop) : stopcockref13_Encode.owed R := ⟨(fun _ _ _ _ _ _ _ _ h => h), (fun _ => ⟨(fun _ _ _ _ _ _ _ _ _ h => h), (fun _ => trivial), trivial⟩), (fun _ _ _ _ _ _ h => h), (fun _ _ _ _ _ _ _ _ _ _ h => h), (fun _ => ⟨(fun _ _ _ _ _ _ _ _ _ _ _ _ _ h => h), trivial⟩), trivial⟩
set_option maxRecDepth 100000 in
theorem stopcockref13_Encode.ok {a0 : Array Value} {a1_0 : Int} {a1_1 : Int} {a2 : Int} {w : World} {R : Ending → World → Prop} (h : stopcockref13_Encode.main a0 a1_0 a1_1 a2 w R) : stopcockref13_Encode.C a0 a1_0 a1_1 a2 w R :=
  ev_ok cxok (c := cx) Try.func20 (code := stopcockref13_Encode.code) (by kernel_rfl) [.tmp 6, .tmp 7] (by kernel_rfl) 150 (by kernel_rfl) (stopcockref13_Encode.sk R) (args := [(Value.agg a0), (Value.agg #[(Value.int .i64 a1_0), (Value.int .i64 a1_1)]), (Value.int .i64 a2)]) (Nat.le_of_ble_eq_true rfl) (by kernel_rfl) (o := stopcockref13_Encode.owed R) (by kernel_rfl) (stopcockref13_Encode.pays R) h

/-! ### stopcock/stopcockref01.Same: function 22 -/
def stopcockref01_Same.b1 (t0p : Option Addr) (t0n : Nat) (t0c : Nat) (t1p : Option Addr) (t1n : Nat) (t1c : Nat) (t5 : Int) (w : World) (R : Ending → World → Prop) (C1 : Option Addr → Nat → Nat → Option Addr → Nat → Nat → Int → World → Prop) : Prop :=
  cond (decide (t5 < ((t0n : Nat) : Int))) (
    chk (decide (0 ≤ t5)) (
      chk (decide (t5 < ((t0n : Nat) : Int))) (
        optP t0p fun d1 =>
        ∃ (r1 : Nat) (m1 : Nat), w.cell? (d1.add (t5.toNat * 1)) = some (Value.complex .f64 r1 m1) ∧
        (chk (decide (0 ≤ t5)) (
            chk (decide (t5 < ((t1n : Nat) : Int))) (
              optP t1p fun d2 =>
              ∃ (r2 : Nat) (m2 : Nat), w.cell? (d2.add (t5.toNat * 1)) = some (Value.complex .f64 r2 m2) ∧
              (∀ k1 : Nat,
                cond (!(fCmp .eql r1 r2 && fCmp .eql m1 m2)) (
                  R (.returned (Value.bool false)) (w.drewN k1)) (
                  C1 t0p t0n t0c t1p t1n t1c (IntKind.i64.wrap (t5 + 1)) (w.drewN k1))))))))) (
    R (.returned (Value.bool true)) w)
def stopcockref01_Same.l1 (t0p : Option Addr) (t0n : Nat) (t0c : Nat) (t1p : Option Addr) (t1n : Nat) (t1c : Nat) (t5 : Int) (w : World) (R : Ending → World → Prop) : Prop :=
  ∃ (I : Option Addr → Nat → Nat → Option Addr → Nat → Nat → Int → World → Prop) (m : Option Addr → Nat → Nat → Option Addr → Nat → Nat → Int → World → Nat), I t0p t0n t0c t1p t1n t1c t5 w ∧
  ∀ (t0p : Option Addr) (t0n : Nat) (t0c : Nat) (t1p : Option Addr) (t1n : Nat) (t1c : Nat) (t5 : Int) (w : World), I t0p t0n t0c t1p t1n t1c t5 w →
  stopcockref01_Same.b1 t0p t0n t0c t1p t1n t1c t5 w R (fun t0p' t0n' t0c' t1p' t1n' t1c' t5' w' => I t0p' t0n' t0c' t1p' t1n' t1c' t5' w' ∧ m t0p' t0n' t0c' t1p' t1n' t1c' t5' w' < m t0p t0n t0c t1p t1n t1c t5 w)
def stopcockref01_Same.main (a0p : Option Addr) (a0n : Nat) (a0c : Nat) (a1p : Option Addr) (a1n : Nat) (a1c : Nat) (w : World) (R : Ending → World → Prop) : Prop :=
  cond (((a0n : Nat) : Int) != ((a1n : Nat) : Int)) (
    R (.returned (Value.bool false)) w) (
    stopcockref01_Same.l1 a0p a0n a0c a1p a1n a1c 0 w R)
abbrev stopcockref01_Same.C (a0p : Option Addr) (a0n : Nat) (a0c : Nat) (a1p : Option Addr) (a1n : Nat) (a1c : Nat) (w : World) (R : Ending → World → Prop) : Prop := Calls Try.prog 22 #[(Value.slice a0p a0n a0c), (Value.slice a1p a1n a1c)] w R
noncomputable def stopcockref01_Same.code : Code := (Try.f22.body).getD .skip
noncomputable def stopcockref01_Same.sk (R : Ending → World → Prop) : Sk := (.seq .leaf (.seq .leaf (.seq (.seq .leaf (.block (.loop [(0, .slice), (1, .slice), (5, .int .i64)] (fun (t0p : Option Addr) (t0n : Nat) (t0c : Nat) (t1p : Option Addr) (t1n : Nat) (t1c : Nat) (t5 : Int) (w : World) => stopcockref01_Same.l1 t0p t0n t0c t1p t1n t1c t5 w R) (fun (C1 : Option Addr → Nat → Nat → Option Addr → Nat → Nat → Int → World → Prop) => .leaf)))) .leaf)))
def stopcockref01_Same.owed (R : Ending → World → Prop) : Prop :=
  (∀ (t0p : Option Addr) (t0n : Nat) (t0c : Nat) (t1p : Option Addr) (t1n : Nat) (t1c : Nat) (t5 : Int) (w : World), stopcockref01_Same.l1 t0p t0n t0c t1p t1n t1c t5 w R → stopcockref01_Same.l1 t0p t0n t0c t1p t1n t1c t5 w R) ∧ (∀ (C1 : Option Addr → Nat → Nat → Option Addr → Nat → Nat → Int → World → Prop), True) ∧ True
theorem stopcockref01_Same.pays (R : Ending → World → Prop) : stopcockref01_Same.owed R := ⟨(fun _ _ _ _ _ _ _ _ h => h), (fun _ => trivial), trivial⟩
set_option maxRecDepth 100000 in
theorem stopcockref01_Same.ok {a0p : Option Addr} {a0n : Nat} {a0c : Nat} {a1p : Option Addr} {a1n : Nat} {a1c : Nat} {w : World} {R : Ending → World → Prop} (h : stopcockref01_Same.main a0p a0n a0c a1p a1n a1c w R) : stopcockref01_Same.C a0p a0n a0c a1p a1n a1c w R :=
  ev_ok cxok (c := cx) Try.func22 (code := stopcockref01_Same.code) (by kernel_rfl) [.tmp 4] (by kernel_rfl) 26 (by kernel_rfl) (stopcockref01_Same.sk R) (args := [(Value.slice a0p a0n a0c), (Value.slice a1p a1n a1c)]) (Nat.le_of_ble_eq_true rfl) (by kernel_rfl) (o := stopcockref01_Same.owed R) (by kernel_rfl) (stopcockref01_Same.pays R) h

end Go.Proofs.Ytokepljpieboiaa.G

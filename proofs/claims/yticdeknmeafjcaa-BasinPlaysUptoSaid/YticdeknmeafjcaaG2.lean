/- Statements of functions, and that their calls do what they say. Printed by wip/tool/dec.py. Conditions: none. -/
import Derived.Test.YticdeknmeafjcaaG0
namespace Go.Proofs.Yticdeknmeafjcaa.G
open Go.Dec
set_option linter.unusedVariables false

/-! ### (*stopcock/stopcockref05.Basin).Flush: function 20 -/
def stopcockref05_Basin_Flush.main (a0 : Option Addr) (w : World) (R : Ending → World → Prop) : Prop :=
  optP a0 fun d1 =>
  ∃ (b1 : Bool), w.cell? (d1.add 3) = some (Value.bool b1) ∧
  (cond b1 (
      R (.returned (Value.int .i64 10)) w) (
      callP Try.prog 30 #[(Value.pointer a0)] w (fun v1 w1 =>
        dB v1 fun b2 =>
        cond b2 (
          R (.returned (Value.int .i64 10)) w1) (
          callP Try.prog 31 #[(Value.pointer a0), (Value.agg #[(Value.bool true), (Value.slice none 0 0)])] w1 (fun v2 w3 =>
            dT v2 fun vs1 =>
            R (.returned (Value.int .i64 0)) w3) (fun ch w4 => R (.panicked ch) w4))) (fun ch w2 => R (.panicked ch) w2)))
abbrev stopcockref05_Basin_Flush.C (a0 : Option Addr) (w : World) (R : Ending → World → Prop) : Prop := Calls Try.prog 20 #[(Value.pointer a0)] w R
noncomputable def stopcockref05_Basin_Flush.code : Code := (Try.f20.body).getD .skip
noncomputable def stopcockref05_Basin_Flush.sk (R : Ending → World → Prop) : Sk := .leaf
def stopcockref05_Basin_Flush.owed (R : Ending → World → Prop) : Prop :=
  True
theorem stopcockref05_Basin_Flush.pays (R : Ending → World → Prop) : stopcockref05_Basin_Flush.owed R := trivial
set_option maxRecDepth 100000 in
theorem stopcockref05_Basin_Flush.ok {a0 : Option Addr} {w : World} {R : Ending → World → Prop} (h : stopcockref05_Basin_Flush.main a0 w R) : stopcockref05_Basin_Flush.C a0 w R :=
  ev_ok cxok (c := cx) Try.func20 (code := stopcockref05_Basin_Flush.code) (by kernel_rfl) [.tmp 2] (by kernel_rfl) 14 (by kernel_rfl) (stopcockref05_Basin_Flush.sk R) (args := [(Value.pointer a0)]) (Nat.le_of_ble_eq_true rfl) (by kernel_rfl) (o := stopcockref05_Basin_Flush.owed R) (by kernel_rfl) (stopcockref05_Basin_Flush.pays R) h

/-! ### (*stopcock/basin.Basin).Fail: function 21 -/
def basin_Basin_Fail.main (a0 : Option Addr) (a1 : Int) (w : World) (R : Ending → World → Prop) : Prop :=
  cond (!(Option.isNone a0)) (
    optP a0 fun d1 =>
    (w.cell? (d1.add 3)).isSome = true ∧ w.frozen? (d1.add 3) = false ∧ ∀ w1, w1 = w.setCell (d1.add 3) (Value.int .i64 (max2 a1 (-1))) →
    (R (.returned (Value.tuple #[])) w1)) (
    R (.returned (Value.tuple #[])) w)
abbrev basin_Basin_Fail.C (a0 : Option Addr) (a1 : Int) (w : World) (R : Ending → World → Prop) : Prop := Calls Try.prog 21 #[(Value.pointer a0), (Value.int .i64 a1)] w R
noncomputable def basin_Basin_Fail.code : Code := (Try.f21.body).getD .skip
noncomputable def basin_Basin_Fail.sk (R : Ending → World → Prop) : Sk := .leaf
def basin_Basin_Fail.owed (R : Ending → World → Prop) : Prop :=
  True
theorem basin_Basin_Fail.pays (R : Ending → World → Prop) : basin_Basin_Fail.owed R := trivial
set_option maxRecDepth 100000 in
theorem basin_Basin_Fail.ok {a0 : Option Addr} {a1 : Int} {w : World} {R : Ending → World → Prop} (h : basin_Basin_Fail.main a0 a1 w R) : basin_Basin_Fail.C a0 a1 w R :=
  ev_ok cxok (c := cx) Try.func21 (code := basin_Basin_Fail.code) (by kernel_rfl) [] (by kernel_rfl) 11 (by kernel_rfl) (basin_Basin_Fail.sk R) (args := [(Value.pointer a0), (Value.int .i64 a1)]) (Nat.le_of_ble_eq_true rfl) (by kernel_rfl) (o := basin_Basin_Fail.owed R) (by kernel_rfl) (basin_Basin_Fail.pays R) h

/-! ### (*stopcock/stopcockref05.Basin).Crash: function 22 -/
def stopcockref05_Basin_Crash.main (a0 : Option Addr) (a1p : Option Addr) (a1n : Nat) (a1c : Nat) (w : World) (R : Ending → World → Prop) : Prop :=
  callP Try.prog 31 #[(Value.pointer a0), (Value.agg #[(Value.bool false), (Value.slice a1p a1n a1c)])] w (fun v1 w1 =>
    dT v1 fun vs1 =>
    optP a0 fun d1 =>
    (w1.cell? (d1.add 3)).isSome = true ∧ w1.frozen? (d1.add 3) = false ∧ ∀ w3, w3 = w1.setCell (d1.add 3) (Value.bool false) →
    (optP a0 fun d2 =>
      (w3.cell? (d2.add 2)).isSome = true ∧ w3.frozen? (d2.add 2) = false ∧ ∀ w4, w4 = w3.setCell (d2.add 2) (Value.int .i64 (-1)) →
      (R (.returned (Value.tuple #[])) w4))) (fun ch w2 => R (.panicked ch) w2)
abbrev stopcockref05_Basin_Crash.C (a0 : Option Addr) (a1p : Option Addr) (a1n : Nat) (a1c : Nat) (w : World) (R : Ending → World → Prop) : Prop := Calls Try.prog 22 #[(Value.pointer a0), (Value.slice a1p a1n a1c)] w R
noncomputable def stopcockref05_Basin_Crash.code : Code := (Try.f22.body).getD .skip
noncomputable def stopcockref05_Basin_Crash.sk (R : Ending → World → Prop) : Sk := .leaf
def stopcockref05_Basin_Crash.owed (R : Ending → World → Prop) : Prop :=
  True
theorem stopcockref05_Basin_Crash.pays (R : Ending → World → Prop) : stopcockref05_Basin_Crash.owed R := trivial
set_option maxRecDepth 100000 in
theorem stopcockref05_Basin_Crash.ok {a0 : Option Addr} {a1p : Option Addr} {a1n : Nat} {a1c : Nat} {w : World} {R : Ending → World → Prop} (h : stopcockref05_Basin_Crash.main a0 a1p a1n a1c w R) : stopcockref05_Basin_Crash.C a0 a1p a1n a1c w R :=
  ev_ok cxok (c := cx) Try.func22 (code := stopcockref05_Basin_Crash.code) (by kernel_rfl) [] (by kernel_rfl) 14 (by kernel_rfl) (stopcockref05_Basin_Crash.sk R) (args := [(Value.pointer a0), (Value.slice a1p a1n a1c)]) (Nat.le_of_ble_eq_true rfl) (by kernel_rfl) (o := stopcockref05_Basin_Crash.owed R) (by kernel_rfl) (stopcockref05_Basin_Crash.pays R) h

/-! ### (*stopcock/basin.Basin).ready: function 23 -/
def basin_Basin_ready.main (a0 : Option Addr) (w : World) (R : Ending → World → Prop) : Prop :=
  cond (Option.isNone a0) (
    R (.returned (Value.int .i64 1)) w) (
    optP a0 fun d1 =>
    ∃ (b1 : Bool), w.cell? (d1.add 4) = some (Value.bool b1) ∧
    (cond b1 (
        R (.returned (Value.int .i64 10)) w) (
        R (.returned (Value.int .i64 0)) w)))
abbrev basin_Basin_ready.C (a0 : Option Addr) (w : World) (R : Ending → World → Prop) : Prop := Calls Try.prog 23 #[(Value.pointer a0)] w R
noncomputable def basin_Basin_ready.code : Code := (Try.f23.body).getD .skip
noncomputable def basin_Basin_ready.sk (R : Ending → World → Prop) : Sk := .leaf
def basin_Basin_ready.owed (R : Ending → World → Prop) : Prop :=
  True
theorem basin_Basin_ready.pays (R : Ending → World → Prop) : basin_Basin_ready.owed R := trivial
set_option maxRecDepth 100000 in
theorem basin_Basin_ready.ok {a0 : Option Addr} {w : World} {R : Ending → World → Prop} (h : basin_Basin_ready.main a0 w R) : basin_Basin_ready.C a0 w R :=
  ev_ok cxok (c := cx) Try.func23 (code := basin_Basin_ready.code) (by kernel_rfl) [.tmp 2] (by kernel_rfl) 11 (by kernel_rfl) (basin_Basin_ready.sk R) (args := [(Value.pointer a0)]) (Nat.le_of_ble_eq_true rfl) (by kernel_rfl) (o := basin_Basin_ready.owed R) (by kernel_rfl) (basin_Basin_ready.pays R) h

/-! ### slices.ContainsFunc[[]stopcock/api.Write,stopcock/api.Write]: function 24 -/
def api_Write.main (a0p : Option Addr) (a0n : Nat) (a0c : Nat) (a1 : Value) (w : World) (R : Ending → World → Prop) : Prop :=
  callP Try.prog 32 #[(Value.slice a0p a0n a0c), a1] w (fun v1 w1 =>
    dI .i64 v1 fun x1 =>
    R (.returned (Value.bool (decide (x1 ≥ 0)))) w1) (fun ch w2 => R (.panicked ch) w2)
abbrev api_Write.C (a0p : Option Addr) (a0n : Nat) (a0c : Nat) (a1 : Value) (w : World) (R : Ending → World → Prop) : Prop := Calls Try.prog 24 #[(Value.slice a0p a0n a0c), a1] w R
noncomputable def api_Write.code : Code := (Try.f24.body).getD .skip
noncomputable def api_Write.sk (R : Ending → World → Prop) : Sk := .leaf
def api_Write.owed (R : Ending → World → Prop) : Prop :=
  True
theorem api_Write.pays (R : Ending → World → Prop) : api_Write.owed R := trivial
set_option maxRecDepth 100000 in
theorem api_Write.ok {a0p : Option Addr} {a0n : Nat} {a0c : Nat} {a1 : Value} {w : World} {R : Ending → World → Prop} (h : api_Write.main a0p a0n a0c a1 w R) : api_Write.C a0p a0n a0c a1 w R :=
  ev_ok cxok (c := cx) Try.func24 (code := api_Write.code) (by kernel_rfl) [.tmp 4] (by kernel_rfl) 9 (by kernel_rfl) (api_Write.sk R) (args := [(Value.slice a0p a0n a0c), a1]) (Nat.le_of_ble_eq_true rfl) (by kernel_rfl) (o := api_Write.owed R) (by kernel_rfl) (api_Write.pays R) h

/-! ### (*stopcock/basin.Basin).Put$1: function 25 -/
def basin_Basin_Put_1.main (a0_0 : Int) (a0_1p : Option Addr) (a0_1n : Nat) (a0_1c : Nat) (w : World) (R : Ending → World → Prop) : Prop :=
  newP w #[(Value.int .i64 a0_0), (Value.slice a0_1p a0_1n a0_1c)] 32 fun b1 w1 =>
  ∃ (p1 : Option Addr) (n1 : Nat) (c1 : Nat), w1.cell? (⟨b1, 1, none⟩ : Addr) = some (Value.slice p1 n1 c1) ∧
  (R (.returned (Value.bool (((n1 : Nat) : Int) != 64))) w1)
abbrev basin_Basin_Put_1.C (a0_0 : Int) (a0_1p : Option Addr) (a0_1n : Nat) (a0_1c : Nat) (w : World) (R : Ending → World → Prop) : Prop := Calls Try.prog 25 #[(Value.agg #[(Value.int .i64 a0_0), (Value.slice a0_1p a0_1n a0_1c)])] w R
noncomputable def basin_Basin_Put_1.code : Code := (Try.f25.body).getD .skip
noncomputable def basin_Basin_Put_1.sk (R : Ending → World → Prop) : Sk := .leaf
def basin_Basin_Put_1.owed (R : Ending → World → Prop) : Prop :=
  True
theorem basin_Basin_Put_1.pays (R : Ending → World → Prop) : basin_Basin_Put_1.owed R := trivial
set_option maxRecDepth 100000 in
theorem basin_Basin_Put_1.ok {a0_0 : Int} {a0_1p : Option Addr} {a0_1n : Nat} {a0_1c : Nat} {w : World} {R : Ending → World → Prop} (h : basin_Basin_Put_1.main a0_0 a0_1p a0_1n a0_1c w R) : basin_Basin_Put_1.C a0_0 a0_1p a0_1n a0_1c w R :=
  ev_ok cxok (c := cx) Try.func25 (code := basin_Basin_Put_1.code) (by kernel_rfl) [.tmp 2] (by kernel_rfl) 7 (by kernel_rfl) (basin_Basin_Put_1.sk R) (args := [(Value.agg #[(Value.int .i64 a0_0), (Value.slice a0_1p a0_1n a0_1c)])]) (Nat.le_of_ble_eq_true rfl) (by kernel_rfl) (o := basin_Basin_Put_1.owed R) (by kernel_rfl) (basin_Basin_Put_1.pays R) h

/-! ### (*stopcock/basin.Basin).Put$2: function 26 -/
def basin_Basin_Put_2.main (a0_0 : Int) (a0_1p : Option Addr) (a0_1n : Nat) (a0_1c : Nat) (q0 : Nat) (w : World) (R : Ending → World → Prop) : Prop :=
  newP w #[(Value.int .i64 a0_0), (Value.slice a0_1p a0_1n a0_1c)] 32 fun b1 w1 =>
  ∃ (x1 : Int), w1.cell? (⟨b1, 0, none⟩ : Addr) = some (Value.int .i64 x1) ∧
  (cond (decide (x1 < 0)) (
      ∀ k1 : Nat,
      R (.returned (Value.bool true)) (w1.drewN k1)) (
      ∃ (x2 : Int), w1.cell? (⟨b1, 0, none⟩ : Addr) = some (Value.int .i64 x2) ∧
      (∃ (p1 : Option Addr), w1.cell? (⟨q0, 0, none⟩ : Addr) = some (Value.pointer p1) ∧
        (optP p1 fun d1 =>
          ∃ (p2 : Option Addr) (n1 : Nat) (c1 : Nat), w1.cell? (d1.add 1) = some (Value.slice p2 n1 c1) ∧
          (∀ k1 : Nat,
            R (.returned (Value.bool (decide (x2 ≥ ((n1 : Nat) : Int))))) (w1.drewN k1))))))
abbrev basin_Basin_Put_2.C (a0_0 : Int) (a0_1p : Option Addr) (a0_1n : Nat) (a0_1c : Nat) (q0 : Nat) (w : World) (R : Ending → World → Prop) : Prop := Calls Try.prog 26 #[(Value.agg #[(Value.int .i64 a0_0), (Value.slice a0_1p a0_1n a0_1c)]), (Value.pointer (some (⟨q0, 0, none⟩ : Addr)))] w R
noncomputable def basin_Basin_Put_2.code : Code := (Try.f26.body).getD .skip
noncomputable def basin_Basin_Put_2.sk (R : Ending → World → Prop) : Sk := .leaf
def basin_Basin_Put_2.owed (R : Ending → World → Prop) : Prop :=
  True
theorem basin_Basin_Put_2.pays (R : Ending → World → Prop) : basin_Basin_Put_2.owed R := trivial
set_option maxRecDepth 100000 in
theorem basin_Basin_Put_2.ok {a0_0 : Int} {a0_1p : Option Addr} {a0_1n : Nat} {a0_1c : Nat} {q0 : Nat} {w : World} {R : Ending → World → Prop} (h : basin_Basin_Put_2.main a0_0 a0_1p a0_1n a0_1c q0 w R) : basin_Basin_Put_2.C a0_0 a0_1p a0_1n a0_1c q0 w R :=
  ev_ok cxok (c := cx) Try.func26 (code := basin_Basin_Put_2.code) (by kernel_rfl) [.tmp 3] (by kernel_rfl) 17 (by kernel_rfl) (basin_Basin_Put_2.sk R) (args := [(Value.agg #[(Value.int .i64 a0_0), (Value.slice a0_1p a0_1n a0_1c)]), (Value.pointer (some (⟨q0, 0, none⟩ : Addr)))]) (Nat.le_of_ble_eq_true rfl) (by kernel_rfl) (o := basin_Basin_Put_2.owed R) (by kernel_rfl) (basin_Basin_Put_2.pays R) h

/-! ### (*stopcock/basin.Basin).spend: function 27 -/
def basin_Basin_spend.main (a0 : Option Addr) (w : World) (R : Ending → World → Prop) : Prop :=
  optP a0 fun d1 =>
  ∃ (x1 : Int), w.cell? (d1.add 3) = some (Value.int .i64 x1) ∧
  (cond (x1 == 0) (
      optP a0 fun d2 =>
      (w.cell? (d2.add 4)).isSome = true ∧ w.frozen? (d2.add 4) = false ∧ ∀ w1, w1 = w.setCell (d2.add 4) (Value.bool true) →
      (optP a0 fun d6 =>
        ∃ (b1 : Bool), w1.cell? (d6.add 4) = some (Value.bool b1) ∧
        (R (.returned (Value.bool b1)) w1))) (
      optP a0 fun d3 =>
      ∃ (x2 : Int), w.cell? (d3.add 3) = some (Value.int .i64 x2) ∧
      (cond (decide (x2 > 0)) (
          optP a0 fun d4 =>
          ∃ (x3 : Int), w.cell? (d4.add 3) = some (Value.int .i64 x3) ∧
          (optP a0 fun d5 =>
            (w.cell? (d5.add 3)).isSome = true ∧ w.frozen? (d5.add 3) = false ∧ ∀ w2, w2 = w.setCell (d5.add 3) (Value.int .i64 (IntKind.i64.wrap (x3 - 1))) →
            (optP a0 fun d7 =>
              ∃ (b2 : Bool), w2.cell? (d7.add 4) = some (Value.bool b2) ∧
              (R (.returned (Value.bool b2)) w2)))) (
          optP a0 fun d8 =>
          ∃ (b3 : Bool), w.cell? (d8.add 4) = some (Value.bool b3) ∧
          (R (.returned (Value.bool b3)) w)))))
abbrev basin_Basin_spend.C (a0 : Option Addr) (w : World) (R : Ending → World → Prop) : Prop := Calls Try.prog 27 #[(Value.pointer a0)] w R
noncomputable def basin_Basin_spend.code : Code := (Try.f27.body).getD .skip
noncomputable def basin_Basin_spend.sk (R : Ending → World → Prop) : Sk := .leaf
def basin_Basin_spend.owed (R : Ending → World → Prop) : Prop :=
  True
theorem basin_Basin_spend.pays (R : Ending → World → Prop) : basin_Basin_spend.owed R := trivial
set_option maxRecDepth 100000 in
theorem basin_Basin_spend.ok {a0 : Option Addr} {w : World} {R : Ending → World → Prop} (h : basin_Basin_spend.main a0 w R) : basin_Basin_spend.C a0 w R :=
  ev_ok cxok (c := cx) Try.func27 (code := basin_Basin_spend.code) (by kernel_rfl) [.tmp 2] (by kernel_rfl) 27 (by kernel_rfl) (basin_Basin_spend.sk R) (args := [(Value.pointer a0)]) (Nat.le_of_ble_eq_true rfl) (by kernel_rfl) (o := basin_Basin_spend.owed R) (by kernel_rfl) (basin_Basin_spend.pays R) h

/-! ### slices.Contains[[]int,int]: function 28 -/
def slices_Contains_int_int.main (a0p : Option Addr) (a0n : Nat) (a0c : Nat) (a1 : Int) (w : World) (R : Ending → World → Prop) : Prop :=
  callP Try.prog 33 #[(Value.slice a0p a0n a0c), (Value.int .i64 a1)] w (fun v1 w1 =>
    dI .i64 v1 fun x1 =>
    R (.returned (Value.bool (decide (x1 ≥ 0)))) w1) (fun ch w2 => R (.panicked ch) w2)
abbrev slices_Contains_int_int.C (a0p : Option Addr) (a0n : Nat) (a0c : Nat) (a1 : Int) (w : World) (R : Ending → World → Prop) : Prop := Calls Try.prog 28 #[(Value.slice a0p a0n a0c), (Value.int .i64 a1)] w R
noncomputable def slices_Contains_int_int.code : Code := (Try.f28.body).getD .skip
noncomputable def slices_Contains_int_int.sk (R : Ending → World → Prop) : Sk := .leaf
def slices_Contains_int_int.owed (R : Ending → World → Prop) : Prop :=
  True
theorem slices_Contains_int_int.pays (R : Ending → World → Prop) : slices_Contains_int_int.owed R := trivial
set_option maxRecDepth 100000 in
theorem slices_Contains_int_int.ok {a0p : Option Addr} {a0n : Nat} {a0c : Nat} {a1 : Int} {w : World} {R : Ending → World → Prop} (h : slices_Contains_int_int.main a0p a0n a0c a1 w R) : slices_Contains_int_int.C a0p a0n a0c a1 w R :=
  ev_ok cxok (c := cx) Try.func28 (code := slices_Contains_int_int.code) (by kernel_rfl) [.tmp 4] (by kernel_rfl) 9 (by kernel_rfl) (slices_Contains_int_int.sk R) (args := [(Value.slice a0p a0n a0c), (Value.int .i64 a1)]) (Nat.le_of_ble_eq_true rfl) (by kernel_rfl) (o := slices_Contains_int_int.owed R) (by kernel_rfl) (slices_Contains_int_int.pays R) h

/-! ### bytes.Clone: function 29 -/
def bytes_Clone.main (a0p : Option Addr) (a0n : Nat) (a0c : Nat) (w : World) (R : Ending → World → Prop) : Prop :=
  cond (Option.isNone a0p) (
    R (.returned (Value.slice none 0 0)) w) (
    newP w #[] 5 fun b1 w1 =>
    appP w1 (some ⟨b1, 0, none⟩) 0 0 a0n (CellsO w1 a0p) 5 1 1 #[(Value.int .u8 0)] fun p1 c1 w2 =>
    R (.returned (Value.slice p1 (0 + a0n) c1)) w2)
abbrev bytes_Clone.C (a0p : Option Addr) (a0n : Nat) (a0c : Nat) (w : World) (R : Ending → World → Prop) : Prop := Calls Try.prog 29 #[(Value.slice a0p a0n a0c)] w R
noncomputable def bytes_Clone.code : Code := (Try.f29.body).getD .skip
noncomputable def bytes_Clone.sk (R : Ending → World → Prop) : Sk := .leaf
def bytes_Clone.owed (R : Ending → World → Prop) : Prop :=
  True
theorem bytes_Clone.pays (R : Ending → World → Prop) : bytes_Clone.owed R := trivial
set_option maxRecDepth 100000 in
theorem bytes_Clone.ok {a0p : Option Addr} {a0n : Nat} {a0c : Nat} {w : World} {R : Ending → World → Prop} (h : bytes_Clone.main a0p a0n a0c w R) : bytes_Clone.C a0p a0n a0c w R :=
  ev_ok cxok (c := cx) Try.func29 (code := bytes_Clone.code) (by kernel_rfl) [.tmp 2] (by kernel_rfl) 8 (by kernel_rfl) (bytes_Clone.sk R) (args := [(Value.slice a0p a0n a0c)]) (Nat.le_of_ble_eq_true rfl) (by kernel_rfl) (o := bytes_Clone.owed R) (by kernel_rfl) (bytes_Clone.pays R) h

/-! ### (*stopcock/stopcockref05.Basin).spend: function 30 -/
def stopcockref05_Basin_spend.k1 (t0 : Option Addr) (w : World) (R : Ending → World → Prop) : Prop :=
  optP t0 fun d3 =>
  ∃ (x2 : Int), w.cell? (d3.add 2) = some (Value.int .i64 x2) ∧
  (cond (decide (x2 > 0)) (
      optP t0 fun d4 =>
      ∃ (x3 : Int), w.cell? (d4.add 2) = some (Value.int .i64 x3) ∧
      (optP t0 fun d5 =>
        (w.cell? (d5.add 2)).isSome = true ∧ w.frozen? (d5.add 2) = false ∧ ∀ w2, w2 = w.setCell (d5.add 2) (Value.int .i64 (IntKind.i64.wrap (x3 - 1))) →
        (optP t0 fun d6 =>
          ∃ (b1 : Bool), w2.cell? (d6.add 3) = some (Value.bool b1) ∧
          (R (.returned (Value.bool b1)) w2)))) (
      optP t0 fun d7 =>
      ∃ (b2 : Bool), w.cell? (d7.add 3) = some (Value.bool b2) ∧
      (R (.returned (Value.bool b2)) w)))
def stopcockref05_Basin_spend.main (a0 : Option Addr) (w : World) (R : Ending → World → Prop) : Prop :=
  optP a0 fun d1 =>
  ∃ (x1 : Int), w.cell? (d1.add 2) = some (Value.int .i64 x1) ∧
  (cond (x1 == 0) (
      optP a0 fun d2 =>
      (w.cell? (d2.add 3)).isSome = true ∧ w.frozen? (d2.add 3) = false ∧ ∀ w1, w1 = w.setCell (d2.add 3) (Value.bool true) →
      (stopcockref05_Basin_spend.k1 a0 w1 R)) (
      stopcockref05_Basin_spend.k1 a0 w R))
abbrev stopcockref05_Basin_spend.C (a0 : Option Addr) (w : World) (R : Ending → World → Prop) : Prop := Calls Try.prog 30 #[(Value.pointer a0)] w R
noncomputable def stopcockref05_Basin_spend.code : Code := (Try.f30.body).getD .skip
noncomputable def stopcockref05_Basin_spend.sk (R : Ending → World → Prop) : Sk := (.seq .leaf (.cut [(0, .ptr)] (fun (t0 : Option Addr) (w : World) => stopcockref05_Basin_spend.k1 t0 w R) .leaf .leaf))
def stopcockref05_Basin_spend.owed (R : Ending → World → Prop) : Prop :=
  (∀ (t0 : Option Addr) (w : World), stopcockref05_Basin_spend.k1 t0 w R → stopcockref05_Basin_spend.k1 t0 w R) ∧ True
theorem stopcockref05_Basin_spend.pays (R : Ending → World → Prop) : stopcockref05_Basin_spend.owed R := ⟨(fun _ _ h => h), trivial⟩
set_option maxRecDepth 100000 in
theorem stopcockref05_Basin_spend.ok {a0 : Option Addr} {w : World} {R : Ending → World → Prop} (h : stopcockref05_Basin_spend.main a0 w R) : stopcockref05_Basin_spend.C a0 w R :=
  ev_ok cxok (c := cx) Try.func30 (code := stopcockref05_Basin_spend.code) (by kernel_rfl) [.tmp 2] (by kernel_rfl) 27 (by kernel_rfl) (stopcockref05_Basin_spend.sk R) (args := [(Value.pointer a0)]) (Nat.le_of_ble_eq_true rfl) (by kernel_rfl) (o := stopcockref05_Basin_spend.owed R) (by kernel_rfl) (stopcockref05_Basin_spend.pays R) h

/-! ### (*stopcock/stopcockref05.Basin).settle: function 31 -/
def stopcockref05_Basin_settle.k1 (t0 : Option Addr) (t3 : Nat) (t4 : Int) (t21 : Bool) (w : World) (R : Ending → World → Prop) (C1 : Option Addr → Nat → Int → World → Prop) : Prop :=
  cond t21 (
    optP t0 fun d2 =>
    ∃ (p3 : Option Addr) (n3 : Nat) (c3 : Nat), w.drew.cell? d2 = some (Value.slice p3 n3 c3) ∧
    (optP t0 fun d3 =>
      ∃ (p4 : Option Addr) (n4 : Nat) (c4 : Nat), w.drew.cell? (d3.add 1) = some (Value.slice p4 n4 c4) ∧
      (chk (decide (0 ≤ t4)) (
          chk (decide (t4 < ((n4 : Nat) : Int))) (
            optP p4 fun d4 =>
            ∃ (x1 : Int), w.drew.cell? (d4.add (t4.toNat * 2)) = some (Value.int .i64 x1) ∧
            (optP t0 fun d5 =>
              ∃ (p5 : Option Addr) (n5 : Nat) (c5 : Nat), w.drew.cell? (d5.add 1) = some (Value.slice p5 n5 c5) ∧
              (chk (decide (0 ≤ t4)) (
                  chk (decide (t4 < ((n5 : Nat) : Int))) (
                    optP p5 fun d6 =>
                    ∃ (s1 : ByteArray), w.drew.cell? ((d6.add (t4.toNat * 2)).add 1) = some (Value.string s1) ∧
                    (chk (decide (0 ≤ x1)) (
                        chk (decide (x1 < ((n3 : Nat) : Int))) (
                          optP p3 fun d7 =>
                          (w.drew.cell? (d7.add (x1.toNat * 1))).isSome = true ∧ w.drew.frozen? (d7.add (x1.toNat * 1)) = false ∧ ∀ w4, w4 = w.drew.setCell (d7.add (x1.toNat * 1)) (Value.string s1) →
                          (C1 t0 t3 (IntKind.i64.wrap (t4 + 1)) w4))))))))))))) (
    C1 t0 t3 (IntKind.i64.wrap (t4 + 1)) w)
def stopcockref05_Basin_settle.b1 (t0 : Option Addr) (t3 : Nat) (t4 : Int) (w : World) (R : Ending → World → Prop) (C1 : Option Addr → Nat → Int → World → Prop) : Prop :=
  optP t0 fun d1 =>
  ∃ (p1 : Option Addr) (n1 : Nat) (c1 : Nat), w.cell? (d1.add 1) = some (Value.slice p1 n1 c1) ∧
  (cond (decide (t4 < ((n1 : Nat) : Int))) (
      ∃ (b2 : Bool), w.cell? (⟨t3, 0, none⟩ : Addr) = some (Value.bool b2) ∧
      (cond b2 (
          stopcockref05_Basin_settle.k1 t0 t3 t4 true w R C1) (
          ∃ (p2 : Option Addr) (n2 : Nat) (c2 : Nat), w.cell? (⟨t3, 1, none⟩ : Addr) = some (Value.slice p2 n2 c2) ∧
          (callP Try.prog 34 #[(Value.slice p2 n2 c2), (Value.int .i64 t4)] w (fun v1 w2 =>
              dB v1 fun b3 =>
              stopcockref05_Basin_settle.k1 t0 t3 t4 b3 w2 R C1) (fun ch w3 => R (.panicked ch) w3))))) (
      optP t0 fun d8 =>
      (w.cell? (d8.add 1)).isSome = true ∧ w.frozen? (d8.add 1) = false ∧ ∀ w5, w5 = w.setCell (d8.add 1) (Value.slice none 0 0) →
      (R (.returned (Value.tuple #[])) w5)))
def stopcockref05_Basin_settle.l1 (t0 : Option Addr) (t3 : Nat) (t4 : Int) (w : World) (R : Ending → World → Prop) : Prop :=
  ∃ (I : Option Addr → Nat → Int → World → Prop) (m : Option Addr → Nat → Int → World → Nat), I t0 t3 t4 w ∧
  ∀ (t0 : Option Addr) (t3 : Nat) (t4 : Int) (w : World), I t0 t3 t4 w →
  stopcockref05_Basin_settle.b1 t0 t3 t4 w R (fun t0' t3' t4' w' => I t0' t3' t4' w' ∧ m t0' t3' t4' w' < m t0 t3 t4 w)
def stopcockref05_Basin_settle.main (a0 : Option Addr) (a1_0 : Bool) (a1_1p : Option Addr) (a1_1n : Nat) (a1_1c : Nat) (w : World) (R : Ending → World → Prop) : Prop :=
  newP w #[(Value.bool a1_0), (Value.slice a1_1p a1_1n a1_1c)] 75 fun b1 w1 =>
  stopcockref05_Basin_settle.l1 a0 b1 0 w1 R
abbrev stopcockref05_Basin_settle.C (a0 : Option Addr) (a1_0 : Bool) (a1_1p : Option Addr) (a1_1n : Nat) (a1_1c : Nat) (w : World) (R : Ending → World → Prop) : Prop := Calls Try.prog 31 #[(Value.pointer a0), (Value.agg #[(Value.bool a1_0), (Value.slice a1_1p a1_1n a1_1c)])] w R
noncomputable def stopcockref05_Basin_settle.code : Code := (Try.f31.body).getD .skip
noncomputable def stopcockref05_Basin_settle.sk (R : Ending → World → Prop) : Sk := (.seq .leaf (.seq (.seq .leaf (.block (.loop [(0, .ptr), (3, .blk), (4, .int .i64)] (fun (t0 : Option Addr) (t3 : Nat) (t4 : Int) (w : World) => stopcockref05_Basin_settle.l1 t0 t3 t4 w R) (fun (C1 : Option Addr → Nat → Int → World → Prop) => (.seq .leaf (.seq (.block (.cut [(0, .ptr), (3, .blk), (4, .int .i64), (21, .bool)] (fun (t0 : Option Addr) (t3 : Nat) (t4 : Int) (t21 : Bool) (w : World) => stopcockref05_Basin_settle.k1 t0 t3 t4 t21 w R C1) .leaf .leaf)) .leaf)))))) .leaf))
def stopcockref05_Basin_settle.owed (R : Ending → World → Prop) : Prop :=
  (∀ (t0 : Option Addr) (t3 : Nat) (t4 : Int) (w : World), stopcockref05_Basin_settle.l1 t0 t3 t4 w R → stopcockref05_Basin_settle.l1 t0 t3 t4 w R) ∧ (∀ (C1 : Option Addr → Nat → Int → World → Prop), (∀ (t0 : Option Addr) (t3 : Nat) (t4 : Int) (t21 : Bool) (w : World), stopcockref05_Basin_settle.k1 t0 t3 t4 t21 w R C1 → stopcockref05_Basin_settle.k1 t0 t3 t4 t21 w R C1) ∧ True) ∧ True
theorem stopcockref05_Basin_settle.pays (R : Ending → World → Prop) : stopcockref05_Basin_settle.owed R := ⟨(fun _ _ _ _ h => h), (fun _ => ⟨(fun _ _ _ _ _ h => h), trivial⟩), trivial⟩
set_option maxRecDepth 100000 in
theorem stopcockref05_Basin_settle.ok {a0 : Option Addr} {a1_0 : Bool} {a1_1p : Option Addr} {a1_1n : Nat} {a1_1c : Nat} {w : World} {R : Ending → World → Prop} (h : stopcockref05_Basin_settle.main a0 a1_0 a1_1p a1_1n a1_1c w R) : stopcockref05_Basin_settle.C a0 a1_0 a1_1p a1_1n a1_1c w R :=
  ev_ok cxok (c := cx) Try.func31 (code := stopcockref05_Basin_settle.code) (by kernel_rfl) [] (by kernel_rfl) 46 (by kernel_rfl) (stopcockref05_Basin_settle.sk R) (args := [(Value.pointer a0), (Value.agg #[(Value.bool a1_0), (Value.slice a1_1p a1_1n a1_1c)])]) (Nat.le_of_ble_eq_true rfl) (by kernel_rfl) (o := stopcockref05_Basin_settle.owed R) (by kernel_rfl) (stopcockref05_Basin_settle.pays R) h

end Go.Proofs.Yticdeknmeafjcaa.G

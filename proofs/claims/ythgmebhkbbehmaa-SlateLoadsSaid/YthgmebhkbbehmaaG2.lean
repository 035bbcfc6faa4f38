/- Statements of functions, and that their calls do what they say. Printed by wip/tool/dec.py. Conditions: none. -/
import Derived.Test.YthgmebhkbbehmaaG0
namespace Go.Proofs.Ythgmebhkbbehmaa.G
open Go.Dec
set_option linter.unusedVariables false

/-! ### stopcock/stopcocklaw14.area: function 23 -/
def stopcocklaw14_area.main (a0 : Int) (w : World) (R : Ending → World → Prop) : Prop :=
  R (.returned (Value.int .i64 (IntKind.i64.wrap ((Int.tmod a0 2) * 12)))) w
abbrev stopcocklaw14_area.C (a0 : Int) (w : World) (R : Ending → World → Prop) : Prop := Calls Try.prog 23 #[(Value.int .i64 a0)] w R
noncomputable def stopcocklaw14_area.code : Code := (Try.f23.body).getD .skip
noncomputable def stopcocklaw14_area.sk (R : Ending → World → Prop) : Sk := .leaf
def stopcocklaw14_area.owed (R : Ending → World → Prop) : Prop :=
  True
theorem stopcocklaw14_area.pays (R : Ending → World → Prop) : stopcocklaw14_area.owed R := trivial
set_option maxRecDepth 100000 in
theorem stopcocklaw14_area.ok {a0 : Int} {w : World} {R : Ending → World → Prop} (h : stopcocklaw14_area.main a0 w R) : stopcocklaw14_area.C a0 w R :=
  ev_ok cxok (c := cx) Try.func23 (code := stopcocklaw14_area.code) (by kernel_rfl) [.tmp 2] (by kernel_rfl) 6 (by kernel_rfl) (stopcocklaw14_area.sk R) (args := [(Value.int .i64 a0)]) (Nat.le_of_ble_eq_true rfl) (by kernel_rfl) (o := stopcocklaw14_area.owed R) (by kernel_rfl) (stopcocklaw14_area.pays R) h

/-! ### stopcock/stopcockref01.Same: function 24 -/
def stopcockref01_Same.b1 (t0p : Option Addr) (t0n : Nat) (t0c : Nat) (t1p : Option Addr) (t1n : Nat) (t1c : Nat) (t5 : Int) (w : World) (R : Ending → World → Prop) (C1 : Option Addr → Nat → Nat → Option Addr → Nat → Nat → Int → World → Prop) : Prop :=
  cond (decide (t5 < ((t0n : Nat) : Int))) (
    chk (decide (0 ≤ t5)) (
      chk (decide (t5 < ((t0n : Nat) : Int))) (
        optP t0p fun d1 =>
        ∃ (r1 : Nat) (m1 : Nat), w.cell? (d1.add (t5.toNat * 1)) = some (Value.complex .f64 r1 m1) ∧
        (chk (decide (0 ≤ t5)) (
            chk (decide (t5 < ((t1n : Nat) : Int))) (
              optP t1p fun d2 =>
              ∃ (r2 : Nat) (m2 : Nat), w.cell? (d2.add (t5.toNat * 1)) = some (Value.complex .f64 r2 m2) ∧
              (∀ k1 : Nat,
                cond (!(fCmp .eql r1 r2 && fCmp .eql m1 m2)) (
                  R (.returned (Value.bool false)) (w.drewN k1)) (
                  C1 t0p t0n t0c t1p t1n t1c (IntKind.i64.wrap (t5 + 1)) (w.drewN k1))))))))) (
    R (.returned (Value.bool true)) w)
def stopcockref01_Same.l1 (t0p : Option Addr) (t0n : Nat) (t0c : Nat) (t1p : Option Addr) (t1n : Nat) (t1c : Nat) (t5 : Int) (w : World) (R : Ending → World → Prop) : Prop :=
  ∃ (I : Option Addr → Nat → Nat → Option Addr → Nat → Nat → Int → World → Prop) (m : Option Addr → Nat → Nat → Option Addr → Nat → Nat → Int → World → Nat), I t0p t0n t0c t1p t1n t1c t5 w ∧
  ∀ (t0p : Option Addr) (t0n : Nat) (t0c : Nat) (t1p : Option Addr) (t1n : Nat) (t1c : Nat) (t5 : Int) (w : World), I t0p t0n t0c t1p t1n t1c t5 w →
  stopcockref01_Same.b1 t0p t0n t0c t1p t1n t1c t5 w R (fun t0p' t0n' t0c' t1p' t1n' t1c' t5' w' => I t0p' t0n' t0c' t1p' t1n' t1c' t5' w' ∧ m t0p' t0n' t0c' t1p' t1n' t1c' t5' w' < m t0p t0n t0c t1p t1n t1c t5 w)
def stopcockref01_Same.main (a0p : Option Addr) (a0n : Nat) (a0c : Nat) (a1p : Option Addr) (a1n : Nat) (a1c : Nat) (w : World) (R : Ending → World → Prop) : Prop :=
  cond (((a0n : Nat) : Int) != ((a1n : Nat) : Int)) (
    R (.returned (Value.bool false)) w) (
    stopcockref01_Same.l1 a0p a0n a0c a1p a1n a1c 0 w R)
abbrev stopcockref01_Same.C (a0p : Option Addr) (a0n : Nat) (a0c : Nat) (a1p : Option Addr) (a1n : Nat) (a1c : Nat) (w : World) (R : Ending → World → Prop) : Prop := Calls Try.prog 24 #[(Value.slice a0p a0n a0c), (Value.slice a1p a1n a1c)] w R
noncomputable def stopcockref01_Same.code : Code := (Try.f24.body).getD .skip
noncomputable def stopcockref01_Same.sk (R : Ending → World → Prop) : Sk := (.seq .leaf (.seq .leaf (.seq (.seq .leaf (.block (.loop [(0, .slice), (1, .slice), (5, .int .i64)] (fun (t0p : Option Addr) (t0n : Nat) (t0c : Nat) (t1p : Option Addr) (t1n : Nat) (t1c : Nat) (t5 : Int) (w : World) => stopcockref01_Same.l1 t0p t0n t0c t1p t1n t1c t5 w R) (fun (C1 : Option Addr → Nat → Nat → Option Addr → Nat → Nat → Int → World → Prop) => .leaf)))) .leaf)))
def stopcockref01_Same.owed (R : Ending → World → Prop) : Prop :=
  (∀ (t0p : Option Addr) (t0n : Nat) (t0c : Nat) (t1p : Option Addr) (t1n : Nat) (t1c : Nat) (t5 : Int) (w : World), stopcockref01_Same.l1 t0p t0n t0c t1p t1n t1c t5 w R → stopcockref01_Same.l1 t0p t0n t0c t1p t1n t1c t5 w R) ∧ (∀ (C1 : Option Addr → Nat → Nat → Option Addr → Nat → Nat → Int → World → Prop), True) ∧ True
theorem stopcockref01_Same.pays (R : Ending → World → Prop) : stopcockref01_Same.owed R := ⟨(fun _ _ _ _ _ _ _ _ h => h), (fun _ => trivial), trivial⟩
set_option maxRecDepth 100000 in
theorem stopcockref01_Same.ok {a0p : Option Addr} {a0n : Nat} {a0c : Nat} {a1p : Option Addr} {a1n : Nat} {a1c : Nat} {w : World} {R : Ending → World → Prop} (h : stopcockref01_Same.main a0p a0n a0c a1p a1n a1c w R) : stopcockref01_Same.C a0p a0n a0c a1p a1n a1c w R :=
  ev_ok cxok (c := cx) Try.func24 (code := stopcockref01_Same.code) (by kernel_rfl) [.tmp 4] (by kernel_rfl) 26 (by kernel_rfl) (stopcockref01_Same.sk R) (args := [(Value.slice a0p a0n a0c), (Value.slice a1p a1n a1c)]) (Nat.le_of_ble_eq_true rfl) (by kernel_rfl) (o := stopcockref01_Same.owed R) (by kernel_rfl) (stopcockref01_Same.pays R) h

/-! ### (*stopcock/basin.Basin).ready: function 25 -/
def basin_Basin_ready.main (a0 : Option Addr) (w : World) (R : Ending → World → Prop) : Prop :=
  cond (Option.isNone a0) (
    R (.returned (Value.int .i64 1)) w) (
    optP a0 fun d1 =>
    ∃ (b1 : Bool), w.cell? (d1.add 4) = some (Value.bool b1) ∧
    (cond b1 (
        R (.returned (Value.int .i64 10)) w) (
        R (.returned (Value.int .i64 0)) w)))
abbrev basin_Basin_ready.C (a0 : Option Addr) (w : World) (R : Ending → World → Prop) : Prop := Calls Try.prog 25 #[(Value.pointer a0)] w R
noncomputable def basin_Basin_ready.code : Code := (Try.f25.body).getD .skip
noncomputable def basin_Basin_ready.sk (R : Ending → World → Prop) : Sk := .leaf
def basin_Basin_ready.owed (R : Ending → World → Prop) : Prop :=
  True
theorem basin_Basin_ready.pays (R : Ending → World → Prop) : basin_Basin_ready.owed R := trivial
set_option maxRecDepth 100000 in
theorem basin_Basin_ready.ok {a0 : Option Addr} {w : World} {R : Ending → World → Prop} (h : basin_Basin_ready.main a0 w R) : basin_Basin_ready.C a0 w R :=
  ev_ok cxok (c := cx) Try.func25 (code := basin_Basin_ready.code) (by kernel_rfl) [.tmp 2] (by kernel_rfl) 11 (by kernel_rfl) (basin_Basin_ready.sk R) (args := [(Value.pointer a0)]) (Nat.le_of_ble_eq_true rfl) (by kernel_rfl) (o := basin_Basin_ready.owed R) (by kernel_rfl) (basin_Basin_ready.pays R) h

/-! ### slices.ContainsFunc[[]stopcock/api.Write,stopcock/api.Write]: function 26 -/
def api_Write.main (a0p : Option Addr) (a0n : Nat) (a0c : Nat) (a1 : Value) (w : World) (R : Ending → World → Prop) : Prop :=
  callP Try.prog 47 #[(Value.slice a0p a0n a0c), a1] w (fun v1 w1 =>
    dI .i64 v1 fun x1 =>
    R (.returned (Value.bool (decide (x1 ≥ 0)))) w1) (fun ch w2 => R (.panicked ch) w2)
abbrev api_Write.C (a0p : Option Addr) (a0n : Nat) (a0c : Nat) (a1 : Value) (w : World) (R : Ending → World → Prop) : Prop := Calls Try.prog 26 #[(Value.slice a0p a0n a0c), a1] w R
noncomputable def api_Write.code : Code := (Try.f26.body).getD .skip
noncomputable def api_Write.sk (R : Ending → World → Prop) : Sk := .leaf
def api_Write.owed (R : Ending → World → Prop) : Prop :=
  True
theorem api_Write.pays (R : Ending → World → Prop) : api_Write.owed R := trivial
set_option maxRecDepth 100000 in
theorem api_Write.ok {a0p : Option Addr} {a0n : Nat} {a0c : Nat} {a1 : Value} {w : World} {R : Ending → World → Prop} (h : api_Write.main a0p a0n a0c a1 w R) : api_Write.C a0p a0n a0c a1 w R :=
  ev_ok cxok (c := cx) Try.func26 (code := api_Write.code) (by kernel_rfl) [.tmp 4] (by kernel_rfl) 9 (by kernel_rfl) (api_Write.sk R) (args := [(Value.slice a0p a0n a0c), a1]) (Nat.le_of_ble_eq_true rfl) (by kernel_rfl) (o := api_Write.owed R) (by kernel_rfl) (api_Write.pays R) h

/-! ### (*stopcock/basin.Basin).Put$1: function 27 -/
def basin_Basin_Put_1.main (a0_0 : Int) (a0_1p : Option Addr) (a0_1n : Nat) (a0_1c : Nat) (w : World) (R : Ending → World → Prop) : Prop :=
  newP w #[(Value.int .i64 a0_0), (Value.slice a0_1p a0_1n a0_1c)] 47 fun b1 w1 =>
  ∃ (p1 : Option Addr) (n1 : Nat) (c1 : Nat), w1.cell? (⟨b1, 1, none⟩ : Addr) = some (Value.slice p1 n1 c1) ∧
  (R (.returned (Value.bool (((n1 : Nat) : Int) != 64))) w1)
abbrev basin_Basin_Put_1.C (a0_0 : Int) (a0_1p : Option Addr) (a0_1n : Nat) (a0_1c : Nat) (w : World) (R : Ending → World → Prop) : Prop := Calls Try.prog 27 #[(Value.agg #[(Value.int .i64 a0_0), (Value.slice a0_1p a0_1n a0_1c)])] w R
noncomputable def basin_Basin_Put_1.code : Code := (Try.f27.body).getD .skip
noncomputable def basin_Basin_Put_1.sk (R : Ending → World → Prop) : Sk := .leaf
def basin_Basin_Put_1.owed (R : Ending → World → Prop) : Prop :=
  True
theorem basin_Basin_Put_1.pays (R : Ending → World → Prop) : basin_Basin_Put_1.owed R := trivial
set_option maxRecDepth 100000 in
theorem basin_Basin_Put_1.ok {a0_0 : Int} {a0_1p : Option Addr} {a0_1n : Nat} {a0_1c : Nat} {w : World} {R : Ending → World → Prop} (h : basin_Basin_Put_1.main a0_0 a0_1p a0_1n a0_1c w R) : basin_Basin_Put_1.C a0_0 a0_1p a0_1n a0_1c w R :=
  ev_ok cxok (c := cx) Try.func27 (code := basin_Basin_Put_1.code) (by kernel_rfl) [.tmp 2] (by kernel_rfl) 7 (by kernel_rfl) (basin_Basin_Put_1.sk R) (args := [(Value.agg #[(Value.int .i64 a0_0), (Value.slice a0_1p a0_1n a0_1c)])]) (Nat.le_of_ble_eq_true rfl) (by kernel_rfl) (o := basin_Basin_Put_1.owed R) (by kernel_rfl) (basin_Basin_Put_1.pays R) h

/-! ### (*stopcock/basin.Basin).Put$2: function 28 -/
def basin_Basin_Put_2.main (a0_0 : Int) (a0_1p : Option Addr) (a0_1n : Nat) (a0_1c : Nat) (q0 : Nat) (w : World) (R : Ending → World → Prop) : Prop :=
  newP w #[(Value.int .i64 a0_0), (Value.slice a0_1p a0_1n a0_1c)] 47 fun b1 w1 =>
  ∃ (x1 : Int), w1.cell? (⟨b1, 0, none⟩ : Addr) = some (Value.int .i64 x1) ∧
  (cond (decide (x1 < 0)) (
      ∀ k1 : Nat,
      R (.returned (Value.bool true)) (w1.drewN k1)) (
      ∃ (x2 : Int), w1.cell? (⟨b1, 0, none⟩ : Addr) = some (Value.int .i64 x2) ∧
      (∃ (p1 : Option Addr), w1.cell? (⟨q0, 0, none⟩ : Addr) = some (Value.pointer p1) ∧
        (optP p1 fun d1 =>
          ∃ (p2 : Option Addr) (n1 : Nat) (c1 : Nat), w1.cell? (d1.add 1) = some (Value.slice p2 n1 c1) ∧
          (∀ k1 : Nat,
            R (.returned (Value.bool (decide (x2 ≥ ((n1 : Nat) : Int))))) (w1.drewN k1))))))
abbrev basin_Basin_Put_2.C (a0_0 : Int) (a0_1p : Option Addr) (a0_1n : Nat) (a0_1c : Nat) (q0 : Nat) (w : World) (R : Ending → World → Prop) : Prop := Calls Try.prog 28 #[(Value.agg #[(Value.int .i64 a0_0), (Value.slice a0_1p a0_1n a0_1c)]), (Value.pointer (some (⟨q0, 0, none⟩ : Addr)))] w R
noncomputable def basin_Basin_Put_2.code : Code := (Try.f28.body).getD .skip
noncomputable def basin_Basin_Put_2.sk (R : Ending → World → Prop) : Sk := .leaf
def basin_Basin_Put_2.owed (R : Ending → World → Prop) : Prop :=
  True
theorem basin_Basin_Put_2.pays (R : Ending → World → Prop) : basin_Basin_Put_2.owed R := trivial
set_option maxRecDepth 100000 in
theorem basin_Basin_Put_2.ok {a0_0 : Int} {a0_1p : Option Addr} {a0_1n : Nat} {a0_1c : Nat} {q0 : Nat} {w : World} {R : Ending → World → Prop} (h : basin_Basin_Put_2.main a0_0 a0_1p a0_1n a0_1c q0 w R) : basin_Basin_Put_2.C a0_0 a0_1p a0_1n a0_1c q0 w R :=
  ev_ok cxok (c := cx) Try.func28 (code := basin_Basin_Put_2.code) (by kernel_rfl) [.tmp 3] (by kernel_rfl) 17 (by kernel_rfl) (basin_Basin_Put_2.sk R) (args := [(Value.agg #[(Value.int .i64 a0_0), (Value.slice a0_1p a0_1n a0_1c)]), (Value.pointer (some (⟨q0, 0, none⟩ : Addr)))]) (Nat.le_of_ble_eq_true rfl) (by kernel_rfl) (o := basin_Basin_Put_2.owed R) (by kernel_rfl) (basin_Basin_Put_2.pays R) h

/-! ### (*stopcock/basin.Basin).spend: function 29 -/
def basin_Basin_spend.main (a0 : Option Addr) (w : World) (R : Ending → World → Prop) : Prop :=
  optP a0 fun d1 =>
  ∃ (x1 : Int), w.cell? (d1.add 3) = some (Value.int .i64 x1) ∧
  (cond (x1 == 0) (
      optP a0 fun d2 =>
      (w.cell? (d2.add 4)).isSome = true ∧ w.frozen? (d2.add 4) = false ∧ ∀ w1, w1 = w.setCell (d2.add 4) (Value.bool true) →
      (optP a0 fun d6 =>
        ∃ (b1 : Bool), w1.cell? (d6.add 4) = some (Value.bool b1) ∧
        (R (.returned (Value.bool b1)) w1))) (
      optP a0 fun d3 =>
      ∃ (x2 : Int), w.cell? (d3.add 3) = some (Value.int .i64 x2) ∧
      (cond (decide (x2 > 0)) (
          optP a0 fun d4 =>
          ∃ (x3 : Int), w.cell? (d4.add 3) = some (Value.int .i64 x3) ∧
          (optP a0 fun d5 =>
            (w.cell? (d5.add 3)).isSome = true ∧ w.frozen? (d5.add 3) = false ∧ ∀ w2, w2 = w.setCell (d5.add 3) (Value.int .i64 (IntKind.i64.wrap (x3 - 1))) →
            (optP a0 fun d7 =>
              ∃ (b2 : Bool), w2.cell? (d7.add 4) = some (Value.bool b2) ∧
              (R (.returned (Value.bool b2)) w2)))) (
          optP a0 fun d8 =>
          ∃ (b3 : Bool), w.cell? (d8.add 4) = some (Value.bool b3) ∧
          (R (.returned (Value.bool b3)) w)))))
abbrev basin_Basin_spend.C (a0 : Option Addr) (w : World) (R : Ending → World → Prop) : Prop := Calls Try.prog 29 #[(Value.pointer a0)] w R
noncomputable def basin_Basin_spend.code : Code := (Try.f29.body).getD .skip
noncomputable def basin_Basin_spend.sk (R : Ending → World → Prop) : Sk := .leaf
def basin_Basin_spend.owed (R : Ending → World → Prop) : Prop :=
  True
theorem basin_Basin_spend.pays (R : Ending → World → Prop) : basin_Basin_spend.owed R := trivial
set_option maxRecDepth 100000 in
theorem basin_Basin_spend.ok {a0 : Option Addr} {w : World} {R : Ending → World → Prop} (h : basin_Basin_spend.main a0 w R) : basin_Basin_spend.C a0 w R :=
  ev_ok cxok (c := cx) Try.func29 (code := basin_Basin_spend.code) (by kernel_rfl) [.tmp 2] (by kernel_rfl) 27 (by kernel_rfl) (basin_Basin_spend.sk R) (args := [(Value.pointer a0)]) (Nat.le_of_ble_eq_true rfl) (by kernel_rfl) (o := basin_Basin_spend.owed R) (by kernel_rfl) (basin_Basin_spend.pays R) h

/-! ### stopcock/leaf.Encode: function 30 -/
def leaf_Encode.o1 (α : Type) (Kq : World → World → Prop) (I : List α → World → Prop) (pre : List α) (x : α) (w24 : World) (b4 : Nat) (p9 : Option Addr) (n3 : Nat) (c9 : Nat) (w11 : World) : Prop :=
  (w24.cell? (⟨b4, 0, none⟩ : Addr)).isSome = true ∧ w24.frozen? (⟨b4, 0, none⟩ : Addr) = false ∧ ∀ w25, w25 = w24.setCell (⟨b4, 0, none⟩ : Addr) (Value.slice p9 (n3 + 1) c9) →
  (KeepsOthers w11 w25 ∧ Kq w11 w25 ∧ I (pre ++ [x]) w25)
def leaf_Encode.o2 (α : Type) (Kq : World → World → Prop) (I : List α → World → Prop) (pre : List α) (x : α) (w23 : World) (p3 : Option Addr) (n3 : Nat) (c3 : Nat) (b7 : Nat) (b4 : Nat) (w11 : World) : Prop :=
  appP w23 p3 n3 c3 1 (CellsO w23 (some ⟨b7, 0, none⟩)) 44 1 24 #[(Value.slice none 0 0)] fun p9 c9 w24 =>
  leaf_Encode.o1 α Kq I pre x w24 b4 p9 n3 c9 w11
def leaf_Encode.o3 (α : Type) (Kq : World → World → Prop) (I : List α → World → Prop) (pre : List α) (x : α) (w21 : World) (p8 : Option Addr) (n7 : Nat) (c8 : Nat) (b4 : Nat) (p3 : Option Addr) (n3 : Nat) (c3 : Nat) (w11 : World) : Prop :=
  newP w21 #[(Value.slice p8 n7 c8)] 44 fun b7 w23 =>
  w23.cell? (⟨b4, 0, none⟩ : Addr) = some (Value.slice p3 n3 c3) ∧
  (leaf_Encode.o2 α Kq I pre x w23 p3 n3 c3 b7 b4 w11)
def leaf_Encode.o4 (α : Type) (Kq : World → World → Prop) (I : List α → World → Prop) (pre : List α) (x : α) (p7 : Option Addr) (n6 : Nat) (n2 : Nat) (c7 : Nat) (w20 : World) (b4 : Nat) (p3 : Option Addr) (n3 : Nat) (c3 : Nat) (w11 : World) : Prop :=
  callP Try.prog 51 #[(Value.slice p7 (n6 + n2) c7)] w20 (fun v6 w21 =>
  dS v6 fun p8 n7 c8 =>
  w21.cell? (⟨b4, 0, none⟩ : Addr) = some (Value.slice p3 n3 c3) ∧
  (leaf_Encode.o3 α Kq I pre x w21 p8 n7 c8 b4 p3 n3 c3 w11)) (fun ch w22 => False)
def leaf_Encode.o5 (α : Type) (Kq : World → World → Prop) (I : List α → World → Prop) (pre : List α) (x : α) (w18 : World) (p6 : Option Addr) (n6 : Nat) (c6 : Nat) (n2 : Nat) (p2 : Option Addr) (b4 : Nat) (p3 : Option Addr) (n3 : Nat) (c3 : Nat) (w11 : World) : Prop :=
  appP w18 p6 n6 c6 n2 (CellsO w18 p2) 5 1 1 #[(Value.int .u8 0)] fun p7 c7 w20 =>
  w20.cell? (⟨b4, 0, none⟩ : Addr) = some (Value.slice p3 n3 c3) ∧
  (leaf_Encode.o4 α Kq I pre x p7 n6 n2 c7 w20 b4 p3 n3 c3 w11)
def leaf_Encode.o6 (α : Type) (Kq : World → World → Prop) (I : List α → World → Prop) (pre : List α) (x : α) (p5 : Option Addr) (n5 : Nat) (c5 : Nat) (b6 : Nat) (w17 : World) (b4 : Nat) (p3 : Option Addr) (n3 : Nat) (c3 : Nat) (n2 : Nat) (p2 : Option Addr) (w11 : World) : Prop :=
  callP Try.prog 52 #[(Value.slice p5 n5 c5), (Value.int .i64 1), (Value.slice (some ⟨b6, 0, none⟩) 2 2)] w17 (fun v5 w18 =>
  dS v5 fun p6 n6 c6 =>
  w18.cell? (⟨b4, 0, none⟩ : Addr) = some (Value.slice p3 n3 c3) ∧
  (leaf_Encode.o5 α Kq I pre x w18 p6 n6 c6 n2 p2 b4 p3 n3 c3 w11)) (fun ch w19 => False)
def leaf_Encode.o7 (α : Type) (Kq : World → World → Prop) (I : List α → World → Prop) (pre : List α) (x : α) (w15 : World) (n4 : Nat) (n2 : Nat) (b4 : Nat) (p3 : Option Addr) (n3 : Nat) (c3 : Nat) (p5 : Option Addr) (n5 : Nat) (c5 : Nat) (p2 : Option Addr) (w11 : World) : Prop :=
  newP w15 #[(Value.int .i64 ((n4 : Nat) : Int)), (Value.int .i64 ((n2 : Nat) : Int))] 3 fun b6 w17 =>
  w17.cell? (⟨b4, 0, none⟩ : Addr) = some (Value.slice p3 n3 c3) ∧
  (leaf_Encode.o6 α Kq I pre x p5 n5 c5 b6 w17 b4 p3 n3 c3 n2 p2 w11)
def leaf_Encode.o8 (α : Type) (Kq : World → World → Prop) (I : List α → World → Prop) (pre : List α) (x : α) (b5 : Nat) (w26 : World) (b4 : Nat) (p3 : Option Addr) (n3 : Nat) (c3 : Nat) (b8 : Nat) (n2 : Nat) (p2 : Option Addr) (w11 : World) : Prop :=
  callP Try.prog 52 #[(Value.slice none 0 0), (Value.int .i64 4), (Value.slice (some ⟨b5, 0, none⟩) 1 1)] w26 (fun v7 w27 =>
  dS v7 fun p10 n8 c10 =>
  w27.cell? (⟨b4, 0, none⟩ : Addr) = some (Value.slice p3 n3 c3) ∧
  (leaf_Encode.o6 α Kq I pre x p10 n8 c10 b8 w27 b4 p3 n3 c3 n2 p2 w11)) (fun ch w28 => False)
def leaf_Encode.o9 (α : Type) (Kq : World → World → Prop) (I : List α → World → Prop) (pre : List α) (x : α) (b5 : Nat) (w14 : World) (b4 : Nat) (p4 : Option Addr) (n4 : Nat) (c4 : Nat) (p3 : Option Addr) (n3 : Nat) (c3 : Nat) (n2 : Nat) (p2 : Option Addr) (w11 : World) : Prop :=
  (callP Try.prog 52 #[(Value.slice none 0 0), (Value.int .i64 4), (Value.slice (some ⟨b5, 0, none⟩) 1 1)] w14 (fun v4 w15 =>
  dS v4 fun p5 n5 c5 =>
  w15.cell? (⟨b4, 0, none⟩ : Addr) = some (Value.slice p4 n4 c4) ∧
  (w15.cell? (⟨b4, 0, none⟩ : Addr) = some (Value.slice p3 n3 c3) ∧
  (leaf_Encode.o7 α Kq I pre x w15 n4 n2 b4 p3 n3 c3 p5 n5 c5 p2 w11))) (fun ch w16 => False)) ∧
  (newP w14 #[(Value.int .i64 ((n4 : Nat) : Int)), (Value.int .i64 ((n2 : Nat) : Int))] 3 fun b8 w26 =>
  w26.cell? (⟨b4, 0, none⟩ : Addr) = some (Value.slice p3 n3 c3) ∧
  (leaf_Encode.o8 α Kq I pre x b5 w26 b4 p3 n3 c3 b8 n2 p2 w11))
def leaf_Encode.o10 (α : Type) (Kq : World → World → Prop) (I : List α → World → Prop) (pre : List α) (x : α) (w37 : World) (x4 : Int) (b4 : Nat) (p3 : Option Addr) (n3 : Nat) (c3 : Nat) (b10 : Nat) (n2 : Nat) (p2 : Option Addr) (w11 : World) : Prop :=
  newP w37 #[(Value.int .i64 x4)] 3 fun b11 w38 =>
  w38.cell? (⟨b4, 0, none⟩ : Addr) = some (Value.slice p3 n3 c3) ∧
  (leaf_Encode.o8 α Kq I pre x b11 w38 b4 p3 n3 c3 b10 n2 p2 w11)
def leaf_Encode.o11 (α : Type) (Kq : World → World → Prop) (I : List α → World → Prop) (pre : List α) (x : α) (w11 : World) (x4 : Int) (b4 : Nat) (p4 : Option Addr) (n4 : Nat) (c4 : Nat) (p3 : Option Addr) (n3 : Nat) (c3 : Nat) (n2 : Nat) (p2 : Option Addr) (b3 : Nat) : Prop :=
  (newP w11.drew #[(Value.int .i64 x4)] 3 fun b5 w14 =>
  w14.cell? (⟨b4, 0, none⟩ : Addr) = some (Value.slice p4 n4 c4) ∧
  (w14.cell? (⟨b4, 0, none⟩ : Addr) = some (Value.slice p3 n3 c3) ∧
  (leaf_Encode.o9 α Kq I pre x b5 w14 b4 p4 n4 c4 p3 n3 c3 n2 p2 w11))) ∧
  (newP w11.drew #[(Value.int .i64 ((n4 : Nat) : Int)), (Value.int .i64 ((n2 : Nat) : Int))] 3 fun b10 w37 =>
  w37.cell? (⟨b3, 0, none⟩ : Addr) = some (Value.int .i64 x4) ∧
  (w37.cell? (⟨b4, 0, none⟩ : Addr) = some (Value.slice p3 n3 c3) ∧
  (leaf_Encode.o10 α Kq I pre x w37 x4 b4 p3 n3 c3 b10 n2 p2 w11)))
def leaf_Encode.o12 (D : Nat) (w67 : World) (b18 : Nat) (n18 : Nat) (p24 : Option Addr) (R : Ending → World → Prop) : Prop :=
  appP w67 (some ⟨b18, 0, none⟩) 1 1 n18 (CellsO w67 p24) 44 1 24 #[(Value.slice none 0 0)] fun p27 c27 w68 =>
  w68.heap[D]? = some (Obj.deferred (some [])) ∧
  R (.returned (Value.tuple #[(Value.slice p27 (1 + n18) c27), (Value.int .i64 0)])) (w68.putObj D (Obj.deferred none))
def leaf_Encode.o13 (D : Nat) (w65 : World) (p26 : Option Addr) (n20 : Nat) (c26 : Nat) (b4 : Nat) (p24 : Option Addr) (n18 : Nat) (c24 : Nat) (R : Ending → World → Prop) : Prop :=
  newP w65 #[(Value.slice p26 n20 c26)] 44 fun b18 w67 =>
  w67.cell? (⟨b4, 0, none⟩ : Addr) = some (Value.slice p24 n18 c24) ∧
  (leaf_Encode.o12 D w67 b18 n18 p24 R)
def leaf_Encode.o14 (D : Nat) (p25 : Option Addr) (n19 : Nat) (c25 : Nat) (w63 : World) (b4 : Nat) (p24 : Option Addr) (n18 : Nat) (c24 : Nat) (R : Ending → World → Prop) : Prop :=
  callP Try.prog 51 #[(Value.slice p25 n19 c25)] w63 (fun v18 w65 =>
  dS v18 fun p26 n20 c26 =>
  w65.cell? (⟨b4, 0, none⟩ : Addr) = some (Value.slice p24 n18 c24) ∧
  (leaf_Encode.o13 D w65 p26 n20 c26 b4 p24 n18 c24 R)) (fun ch w66 => w66.heap[D]? = some (Obj.deferred (some [])) ∧
  R (.panicked ch) (w66.putObj D (Obj.deferred none)))
def leaf_Encode.o15 (D : Nat) (p23 : Option Addr) (n17 : Nat) (c23 : Nat) (b17 : Nat) (w62 : World) (b4 : Nat) (p24 : Option Addr) (n18 : Nat) (c24 : Nat) (R : Ending → World → Prop) : Prop :=
  callP Try.prog 52 #[(Value.slice p23 n17 c23), (Value.int .i64 4), (Value.slice (some ⟨b17, 0, none⟩) 1 1)] w62 (fun v17 w63 =>
  dS v17 fun p25 n19 c25 =>
  w63.cell? (⟨b4, 0, none⟩ : Addr) = some (Value.slice p24 n18 c24) ∧
  (leaf_Encode.o14 D p25 n19 c25 w63 b4 p24 n18 c24 R)) (fun ch w64 => w64.heap[D]? = some (Obj.deferred (some [])) ∧
  R (.panicked ch) (w64.putObj D (Obj.deferred none)))
def leaf_Encode.o16 (D : Nat) (w60 : World) (x8 : Int) (b4 : Nat) (p24 : Option Addr) (n18 : Nat) (c24 : Nat) (p23 : Option Addr) (n17 : Nat) (c23 : Nat) (R : Ending → World → Prop) : Prop :=
  newP w60 #[(Value.int .i64 (IntKind.i64.wrap x8))] 3 fun b17 w62 =>
  w62.cell? (⟨b4, 0, none⟩ : Addr) = some (Value.slice p24 n18 c24) ∧
  (leaf_Encode.o15 D p23 n17 c23 b17 w62 b4 p24 n18 c24 R)
def leaf_Encode.o17 (D : Nat) (p1 : Option Addr) (n1 : Nat) (c1 : Nat) (w58 : World) (b4 : Nat) (p24 : Option Addr) (n18 : Nat) (c24 : Nat) (p23 : Option Addr) (n17 : Nat) (c23 : Nat) (R : Ending → World → Prop) : Prop :=
  callP Try.prog 53 #[(Value.slice p1 n1 c1)] w58.drew (fun v16 w60 =>
  dI .u32 v16 fun x8 =>
  w60.cell? (⟨b4, 0, none⟩ : Addr) = some (Value.slice p24 n18 c24) ∧
  (leaf_Encode.o16 D w60 x8 b4 p24 n18 c24 p23 n17 c23 R)) (fun ch w61 => w61.heap[D]? = some (Obj.deferred (some [])) ∧
  R (.panicked ch) (w61.putObj D (Obj.deferred none)))
def leaf_Encode.o18 (D : Nat) (p22 : Option Addr) (n16 : Nat) (c22 : Nat) (b16 : Nat) (w57 : World) (b4 : Nat) (p1 : Option Addr) (n1 : Nat) (c1 : Nat) (R : Ending → World → Prop) : Prop :=
  callP Try.prog 52 #[(Value.slice p22 n16 c22), (Value.int .i64 2), (Value.slice (some ⟨b16, 0, none⟩) 1 1)] w57 (fun v15 w58 =>
  dS v15 fun p23 n17 c23 =>
  ∃ (p24 : Option Addr) (n18 : Nat) (c24 : Nat), w58.drew.cell? (⟨b4, 0, none⟩ : Addr) = some (Value.slice p24 n18 c24) ∧
  (leaf_Encode.o17 D p1 n1 c1 w58 b4 p24 n18 c24 p23 n17 c23 R)) (fun ch w59 => w59.heap[D]? = some (Obj.deferred (some [])) ∧
  R (.panicked ch) (w59.putObj D (Obj.deferred none)))
def leaf_Encode.o19 (D : Nat) (w55 : World) (n1 : Nat) (p22 : Option Addr) (n16 : Nat) (c22 : Nat) (b4 : Nat) (p1 : Option Addr) (c1 : Nat) (R : Ending → World → Prop) : Prop :=
  newP w55 #[(Value.int .i64 ((n1 : Nat) : Int))] 3 fun b16 w57 =>
  leaf_Encode.o18 D p22 n16 c22 b16 w57 b4 p1 n1 c1 R
def leaf_Encode.o20 (D : Nat) (p21 : Option Addr) (n15 : Nat) (c21 : Nat) (b15 : Nat) (w69 : World) (b19 : Nat) (b4 : Nat) (p1 : Option Addr) (n1 : Nat) (c1 : Nat) (R : Ending → World → Prop) : Prop :=
  callP Try.prog 52 #[(Value.slice p21 n15 c21), (Value.int .i64 1), (Value.slice (some ⟨b15, 0, none⟩) 3 3)] w69 (fun v19 w70 =>
  dS v19 fun p28 n21 c28 =>
  leaf_Encode.o18 D p28 n21 c28 b19 w70 b4 p1 n1 c1 R) (fun ch w71 => w71.heap[D]? = some (Obj.deferred (some [])) ∧
  R (.panicked ch) (w71.putObj D (Obj.deferred none)))
def leaf_Encode.o21 (D : Nat) (p21 : Option Addr) (n15 : Nat) (c21 : Nat) (b15 : Nat) (w54 : World) (n1 : Nat) (b4 : Nat) (p1 : Option Addr) (c1 : Nat) (R : Ending → World → Prop) : Prop :=
  (callP Try.prog 52 #[(Value.slice p21 n15 c21), (Value.int .i64 1), (Value.slice (some ⟨b15, 0, none⟩) 3 3)] w54 (fun v14 w55 =>
  dS v14 fun p22 n16 c22 =>
  leaf_Encode.o19 D w55 n1 p22 n16 c22 b4 p1 c1 R) (fun ch w56 => w56.heap[D]? = some (Obj.deferred (some [])) ∧
  R (.panicked ch) (w56.putObj D (Obj.deferred none)))) ∧
  (newP w54 #[(Value.int .i64 ((n1 : Nat) : Int))] 3 fun b19 w69 =>
  leaf_Encode.o20 D p21 n15 c21 b15 w69 b19 b4 p1 n1 c1 R)
def leaf_Encode.o22 (D : Nat) (w83 : World) (x6 : Int) (x7 : Int) (n14 : Nat) (p21 : Option Addr) (n15 : Nat) (c21 : Nat) (b22 : Nat) (b4 : Nat) (p1 : Option Addr) (n1 : Nat) (c1 : Nat) (R : Ending → World → Prop) : Prop :=
  newP w83 #[(Value.int .i64 x6), (Value.int .i64 x7), (Value.int .i64 ((n14 : Nat) : Int))] 3 fun b23 w84 =>
  leaf_Encode.o20 D p21 n15 c21 b23 w84 b22 b4 p1 n1 c1 R
def leaf_Encode.o23 (D : Nat) (w52 : World) (x6 : Int) (x7 : Int) (n14 : Nat) (p21 : Option Addr) (n15 : Nat) (c21 : Nat) (n1 : Nat) (b4 : Nat) (p1 : Option Addr) (c1 : Nat) (p20 : Option Addr) (c20 : Nat) (b2 : Nat) (R : Ending → World → Prop) : Prop :=
  (newP w52 #[(Value.int .i64 x6), (Value.int .i64 x7), (Value.int .i64 ((n14 : Nat) : Int))] 3 fun b15 w54 =>
  leaf_Encode.o21 D p21 n15 c21 b15 w54 n1 b4 p1 c1 R) ∧
  (newP w52 #[(Value.int .i64 ((n1 : Nat) : Int))] 3 fun b22 w83 =>
  w83.cell? (⟨b4, 0, none⟩ : Addr) = some (Value.slice p20 n14 c20) ∧
  (w83.cell? (⟨b2, 1, none⟩ : Addr) = some (Value.int .i64 x7) ∧
  (w83.cell? (⟨b2, 0, none⟩ : Addr) = some (Value.int .i64 x6) ∧
  (leaf_Encode.o22 D w83 x6 x7 n14 p21 n15 c21 b22 b4 p1 n1 c1 R))))
def leaf_Encode.o24 (D : Nat) (b13 : Nat) (b14 : Nat) (w129 : World) (b26 : Nat) (b33 : Nat) (b4 : Nat) (p1 : Option Addr) (n1 : Nat) (c1 : Nat) (R : Ending → World → Prop) : Prop :=
  callP Try.prog 52 #[(Value.slice (some ⟨b13, 0, none⟩) 4 4), (Value.int .i64 4), (Value.slice (some ⟨b14, 0, none⟩) 1 1)] w129 (fun v40 w130 =>
  dS v40 fun p53 n42 c53 =>
  leaf_Encode.o20 D p53 n42 c53 b26 w130 b33 b4 p1 n1 c1 R) (fun ch w131 => w131.heap[D]? = some (Obj.deferred (some [])) ∧
  R (.panicked ch) (w131.putObj D (Obj.deferred none)))
def leaf_Encode.o25 (D : Nat) (b13 : Nat) (b14 : Nat) (w98 : World) (b26 : Nat) (n1 : Nat) (b4 : Nat) (p1 : Option Addr) (c1 : Nat) (R : Ending → World → Prop) : Prop :=
  (callP Try.prog 52 #[(Value.slice (some ⟨b13, 0, none⟩) 4 4), (Value.int .i64 4), (Value.slice (some ⟨b14, 0, none⟩) 1 1)] w98 (fun v29 w99 =>
  dS v29 fun p40 n31 c40 =>
  leaf_Encode.o21 D p40 n31 c40 b26 w99 n1 b4 p1 c1 R) (fun ch w100 => w100.heap[D]? = some (Obj.deferred (some [])) ∧
  R (.panicked ch) (w100.putObj D (Obj.deferred none)))) ∧
  (newP w98 #[(Value.int .i64 ((n1 : Nat) : Int))] 3 fun b33 w129 =>
  leaf_Encode.o24 D b13 b14 w129 b26 b33 b4 p1 n1 c1 R)
def leaf_Encode.o26 (D : Nat) (b13 : Nat) (b14 : Nat) (w145 : World) (b4 : Nat) (p20 : Option Addr) (n14 : Nat) (c20 : Nat) (b2 : Nat) (x7 : Int) (x6 : Int) (b36 : Nat) (p1 : Option Addr) (n1 : Nat) (c1 : Nat) (R : Ending → World → Prop) : Prop :=
  (callP Try.prog 52 #[(Value.slice (some ⟨b13, 0, none⟩) 4 4), (Value.int .i64 4), (Value.slice (some ⟨b14, 0, none⟩) 1 1)] w145 (fun v46 w146 =>
  dS v46 fun p60 n48 c60 =>
  w146.cell? (⟨b4, 0, none⟩ : Addr) = some (Value.slice p20 n14 c20) ∧
  (w146.cell? (⟨b2, 1, none⟩ : Addr) = some (Value.int .i64 x7) ∧
  (w146.cell? (⟨b2, 0, none⟩ : Addr) = some (Value.int .i64 x6) ∧
  (leaf_Encode.o22 D w146 x6 x7 n14 p60 n48 c60 b36 b4 p1 n1 c1 R)))) (fun ch w147 => w147.heap[D]? = some (Obj.deferred (some [])) ∧
  R (.panicked ch) (w147.putObj D (Obj.deferred none)))) ∧
  (newP w145 #[(Value.int .i64 x6), (Value.int .i64 x7), (Value.int .i64 ((n14 : Nat) : Int))] 3 fun b40 w162 =>
  leaf_Encode.o24 D b13 b14 w162 b40 b36 b4 p1 n1 c1 R)
def leaf_Encode.o27 (D : Nat) (b13 : Nat) (b14 : Nat) (w51 : World) (b4 : Nat) (p20 : Option Addr) (n14 : Nat) (c20 : Nat) (b2 : Nat) (x7 : Int) (x6 : Int) (n1 : Nat) (p1 : Option Addr) (c1 : Nat) (R : Ending → World → Prop) : Prop :=
  (callP Try.prog 52 #[(Value.slice (some ⟨b13, 0, none⟩) 4 4), (Value.int .i64 4), (Value.slice (some ⟨b14, 0, none⟩) 1 1)] w51 (fun v13 w52 =>
  dS v13 fun p21 n15 c21 =>
  w52.cell? (⟨b4, 0, none⟩ : Addr) = some (Value.slice p20 n14 c20) ∧
  (w52.cell? (⟨b2, 1, none⟩ : Addr) = some (Value.int .i64 x7) ∧
  (w52.cell? (⟨b2, 0, none⟩ : Addr) = some (Value.int .i64 x6) ∧
  (leaf_Encode.o23 D w52 x6 x7 n14 p21 n15 c21 n1 b4 p1 c1 p20 c20 b2 R)))) (fun ch w53 => w53.heap[D]? = some (Obj.deferred (some [])) ∧
  R (.panicked ch) (w53.putObj D (Obj.deferred none)))) ∧
  (newP w51 #[(Value.int .i64 x6), (Value.int .i64 x7), (Value.int .i64 ((n14 : Nat) : Int))] 3 fun b26 w98 =>
  leaf_Encode.o25 D b13 b14 w98 b26 n1 b4 p1 c1 R) ∧
  (newP w51 #[(Value.int .i64 ((n1 : Nat) : Int))] 3 fun b36 w145 =>
  w145.cell? (⟨b4, 0, none⟩ : Addr) = some (Value.slice p20 n14 c20) ∧
  (w145.cell? (⟨b2, 1, none⟩ : Addr) = some (Value.int .i64 x7) ∧
  (w145.cell? (⟨b2, 0, none⟩ : Addr) = some (Value.int .i64 x6) ∧
  (leaf_Encode.o26 D b13 b14 w145 b4 p20 n14 c20 b2 x7 x6 b36 p1 n1 c1 R))))
def leaf_Encode.o28 (D : Nat) (w226 : World) (x5 : Int) (b13 : Nat) (b43 : Nat) (b54 : Nat) (b4 : Nat) (p1 : Option Addr) (n1 : Nat) (c1 : Nat) (R : Ending → World → Prop) : Prop :=
  newP w226 #[(Value.int .i64 x5)] 3 fun b55 w227 =>
  leaf_Encode.o24 D b13 b55 w227 b43 b54 b4 p1 n1 c1 R
def leaf_Encode.o29 (D : Nat) (w178 : World) (x5 : Int) (b13 : Nat) (b43 : Nat) (n1 : Nat) (b4 : Nat) (p1 : Option Addr) (c1 : Nat) (b3 : Nat) (R : Ending → World → Prop) : Prop :=
  (newP w178 #[(Value.int .i64 x5)] 3 fun b44 w179 =>
  leaf_Encode.o25 D b13 b44 w179 b43 n1 b4 p1 c1 R) ∧
  (newP w178 #[(Value.int .i64 ((n1 : Nat) : Int))] 3 fun b54 w226 =>
  w226.cell? (⟨b3, 0, none⟩ : Addr) = some (Value.int .i64 x5) ∧
  (leaf_Encode.o28 D w226 x5 b13 b43 b54 b4 p1 n1 c1 R))
def leaf_Encode.o30 (D : Nat) (w243 : World) (x5 : Int) (b4 : Nat) (p20 : Option Addr) (n14 : Nat) (c20 : Nat) (b2 : Nat) (x7 : Int) (x6 : Int) (b13 : Nat) (b58 : Nat) (p1 : Option Addr) (n1 : Nat) (c1 : Nat) (b3 : Nat) (R : Ending → World → Prop) : Prop :=
  (newP w243 #[(Value.int .i64 x5)] 3 fun b59 w244 =>
  w244.cell? (⟨b4, 0, none⟩ : Addr) = some (Value.slice p20 n14 c20) ∧
  (w244.cell? (⟨b2, 1, none⟩ : Addr) = some (Value.int .i64 x7) ∧
  (w244.cell? (⟨b2, 0, none⟩ : Addr) = some (Value.int .i64 x6) ∧
  (leaf_Encode.o26 D b13 b59 w244 b4 p20 n14 c20 b2 x7 x6 b58 p1 n1 c1 R)))) ∧
  (newP w243 #[(Value.int .i64 x6), (Value.int .i64 x7), (Value.int .i64 ((n14 : Nat) : Int))] 3 fun b66 w277 =>
  w277.cell? (⟨b3, 0, none⟩ : Addr) = some (Value.int .i64 x5) ∧
  (leaf_Encode.o28 D w277 x5 b13 b66 b58 b4 p1 n1 c1 R))
def leaf_Encode.o31 (D : Nat) (w50 : World) (x5 : Int) (b4 : Nat) (p20 : Option Addr) (n14 : Nat) (c20 : Nat) (b2 : Nat) (x7 : Int) (x6 : Int) (b13 : Nat) (n1 : Nat) (p1 : Option Addr) (c1 : Nat) (b3 : Nat) (R : Ending → World → Prop) : Prop :=
  (newP w50 #[(Value.int .i64 x5)] 3 fun b14 w51 =>
  w51.cell? (⟨b4, 0, none⟩ : Addr) = some (Value.slice p20 n14 c20) ∧
  (w51.cell? (⟨b2, 1, none⟩ : Addr) = some (Value.int .i64 x7) ∧
  (w51.cell? (⟨b2, 0, none⟩ : Addr) = some (Value.int .i64 x6) ∧
  (leaf_Encode.o27 D b13 b14 w51 b4 p20 n14 c20 b2 x7 x6 n1 p1 c1 R)))) ∧
  (newP w50 #[(Value.int .i64 x6), (Value.int .i64 x7), (Value.int .i64 ((n14 : Nat) : Int))] 3 fun b43 w178 =>
  w178.cell? (⟨b3, 0, none⟩ : Addr) = some (Value.int .i64 x5) ∧
  (leaf_Encode.o29 D w178 x5 b13 b43 n1 b4 p1 c1 b3 R)) ∧
  (newP w50 #[(Value.int .i64 ((n1 : Nat) : Int))] 3 fun b58 w243 =>
  w243.cell? (⟨b4, 0, none⟩ : Addr) = some (Value.slice p20 n14 c20) ∧
  (w243.cell? (⟨b2, 1, none⟩ : Addr) = some (Value.int .i64 x7) ∧
  (w243.cell? (⟨b2, 0, none⟩ : Addr) = some (Value.int .i64 x6) ∧
  (w243.cell? (⟨b3, 0, none⟩ : Addr) = some (Value.int .i64 x5) ∧
  (leaf_Encode.o30 D w243 x5 b4 p20 n14 c20 b2 x7 x6 b13 b58 p1 n1 c1 b3 R)))))
def leaf_Encode.o32 (D : Nat) (w470 : World) (b13 : Nat) (b70 : Nat) (b99 : Nat) (b109 : Nat) (b4 : Nat) (p1 : Option Addr) (n1 : Nat) (c1 : Nat) (R : Ending → World → Prop) : Prop :=
  markP w470 ⟨b13, 0, none⟩ fun w471 =>
  leaf_Encode.o24 D b13 b70 w471 b99 b109 b4 p1 n1 c1 R
def leaf_Encode.o33 (D : Nat) (w422 : World) (b13 : Nat) (b70 : Nat) (b99 : Nat) (n1 : Nat) (b4 : Nat) (p1 : Option Addr) (c1 : Nat) (R : Ending → World → Prop) : Prop :=
  (markP w422 ⟨b13, 0, none⟩ fun w423 =>
  leaf_Encode.o25 D b13 b70 w423 b99 n1 b4 p1 c1 R) ∧
  (newP w422 #[(Value.int .i64 ((n1 : Nat) : Int))] 3 fun b109 w470 =>
  leaf_Encode.o32 D w470 b13 b70 b99 b109 b4 p1 n1 c1 R)
def leaf_Encode.o34 (D : Nat) (w487 : World) (b13 : Nat) (b4 : Nat) (p20 : Option Addr) (n14 : Nat) (c20 : Nat) (b2 : Nat) (x7 : Int) (x6 : Int) (b70 : Nat) (b112 : Nat) (p1 : Option Addr) (n1 : Nat) (c1 : Nat) (R : Ending → World → Prop) : Prop :=
  (markP w487 ⟨b13, 0, none⟩ fun w488 =>
  w488.cell? (⟨b4, 0, none⟩ : Addr) = some (Value.slice p20 n14 c20) ∧
  (w488.cell? (⟨b2, 1, none⟩ : Addr) = some (Value.int .i64 x7) ∧
  (w488.cell? (⟨b2, 0, none⟩ : Addr) = some (Value.int .i64 x6) ∧
  (leaf_Encode.o26 D b13 b70 w488 b4 p20 n14 c20 b2 x7 x6 b112 p1 n1 c1 R)))) ∧
  (newP w487 #[(Value.int .i64 x6), (Value.int .i64 x7), (Value.int .i64 ((n14 : Nat) : Int))] 3 fun b119 w521 =>
  leaf_Encode.o32 D w521 b13 b70 b119 b112 b4 p1 n1 c1 R)
def leaf_Encode.o35 (D : Nat) (w294 : World) (b13 : Nat) (b4 : Nat) (p20 : Option Addr) (n14 : Nat) (c20 : Nat) (b2 : Nat) (x7 : Int) (x6 : Int) (b70 : Nat) (n1 : Nat) (p1 : Option Addr) (c1 : Nat) (R : Ending → World → Prop) : Prop :=
  (markP w294 ⟨b13, 0, none⟩ fun w295 =>
  w295.cell? (⟨b4, 0, none⟩ : Addr) = some (Value.slice p20 n14 c20) ∧
  (w295.cell? (⟨b2, 1, none⟩ : Addr) = some (Value.int .i64 x7) ∧
  (w295.cell? (⟨b2, 0, none⟩ : Addr) = some (Value.int .i64 x6) ∧
  (leaf_Encode.o27 D b13 b70 w295 b4 p20 n14 c20 b2 x7 x6 n1 p1 c1 R)))) ∧
  (newP w294 #[(Value.int .i64 x6), (Value.int .i64 x7), (Value.int .i64 ((n14 : Nat) : Int))] 3 fun b99 w422 =>
  leaf_Encode.o33 D w422 b13 b70 b99 n1 b4 p1 c1 R) ∧
  (newP w294 #[(Value.int .i64 ((n1 : Nat) : Int))] 3 fun b112 w487 =>
  w487.cell? (⟨b4, 0, none⟩ : Addr) = some (Value.slice p20 n14 c20) ∧
  (w487.cell? (⟨b2, 1, none⟩ : Addr) = some (Value.int .i64 x7) ∧
  (w487.cell? (⟨b2, 0, none⟩ : Addr) = some (Value.int .i64 x6) ∧
  (leaf_Encode.o34 D w487 b13 b4 p20 n14 c20 b2 x7 x6 b70 b112 p1 n1 c1 R))))
def leaf_Encode.o36 (D : Nat) (w669 : World) (b13 : Nat) (b3 : Nat) (x5 : Int) (b122 : Nat) (b150 : Nat) (b4 : Nat) (p1 : Option Addr) (n1 : Nat) (c1 : Nat) (R : Ending → World → Prop) : Prop :=
  (markP w669 ⟨b13, 0, none⟩ fun w670 =>
  w670.cell? (⟨b3, 0, none⟩ : Addr) = some (Value.int .i64 x5) ∧
  (leaf_Encode.o28 D w670 x5 b13 b122 b150 b4 p1 n1 c1 R)) ∧
  (newP w669 #[(Value.int .i64 x5)] 3 fun b154 w687 =>
  leaf_Encode.o32 D w687 b13 b154 b122 b150 b4 p1 n1 c1 R)
def leaf_Encode.o37 (D : Nat) (w538 : World) (b13 : Nat) (b3 : Nat) (x5 : Int) (b122 : Nat) (n1 : Nat) (b4 : Nat) (p1 : Option Addr) (c1 : Nat) (R : Ending → World → Prop) : Prop :=
  (markP w538 ⟨b13, 0, none⟩ fun w539 =>
  w539.cell? (⟨b3, 0, none⟩ : Addr) = some (Value.int .i64 x5) ∧
  (leaf_Encode.o29 D w539 x5 b13 b122 n1 b4 p1 c1 b3 R)) ∧
  (newP w538 #[(Value.int .i64 x5)] 3 fun b137 w604 =>
  leaf_Encode.o33 D w604 b13 b137 b122 n1 b4 p1 c1 R) ∧
  (newP w538 #[(Value.int .i64 ((n1 : Nat) : Int))] 3 fun b150 w669 =>
  w669.cell? (⟨b3, 0, none⟩ : Addr) = some (Value.int .i64 x5) ∧
  (leaf_Encode.o36 D w669 b13 b3 x5 b122 b150 b4 p1 n1 c1 R))
def leaf_Encode.o38 (D : Nat) (w704 : World) (b13 : Nat) (b4 : Nat) (p20 : Option Addr) (n14 : Nat) (c20 : Nat) (b2 : Nat) (x7 : Int) (x6 : Int) (b3 : Nat) (x5 : Int) (b157 : Nat) (p1 : Option Addr) (n1 : Nat) (c1 : Nat) (R : Ending → World → Prop) : Prop :=
  (markP w704 ⟨b13, 0, none⟩ fun w705 =>
  w705.cell? (⟨b4, 0, none⟩ : Addr) = some (Value.slice p20 n14 c20) ∧
  (w705.cell? (⟨b2, 1, none⟩ : Addr) = some (Value.int .i64 x7) ∧
  (w705.cell? (⟨b2, 0, none⟩ : Addr) = some (Value.int .i64 x6) ∧
  (w705.cell? (⟨b3, 0, none⟩ : Addr) = some (Value.int .i64 x5) ∧
  (leaf_Encode.o30 D w705 x5 b4 p20 n14 c20 b2 x7 x6 b13 b157 p1 n1 c1 b3 R))))) ∧
  (newP w704 #[(Value.int .i64 x5)] 3 fun b169 w756 =>
  w756.cell? (⟨b4, 0, none⟩ : Addr) = some (Value.slice p20 n14 c20) ∧
  (w756.cell? (⟨b2, 1, none⟩ : Addr) = some (Value.int .i64 x7) ∧
  (w756.cell? (⟨b2, 0, none⟩ : Addr) = some (Value.int .i64 x6) ∧
  (leaf_Encode.o34 D w756 b13 b4 p20 n14 c20 b2 x7 x6 b169 b157 p1 n1 c1 R)))) ∧
  (newP w704 #[(Value.int .i64 x6), (Value.int .i64 x7), (Value.int .i64 ((n14 : Nat) : Int))] 3 fun b179 w807 =>
  w807.cell? (⟨b3, 0, none⟩ : Addr) = some (Value.int .i64 x5) ∧
  (leaf_Encode.o36 D w807 b13 b3 x5 b179 b157 b4 p1 n1 c1 R))
def leaf_Encode.o39 (D : Nat) (w49 : World) (b13 : Nat) (b4 : Nat) (p20 : Option Addr) (n14 : Nat) (c20 : Nat) (b2 : Nat) (x7 : Int) (x6 : Int) (b3 : Nat) (x5 : Int) (n1 : Nat) (p1 : Option Addr) (c1 : Nat) (R : Ending → World → Prop) : Prop :=
  (markP w49 ⟨b13, 0, none⟩ fun w50 =>
  w50.cell? (⟨b4, 0, none⟩ : Addr) = some (Value.slice p20 n14 c20) ∧
  (w50.cell? (⟨b2, 1, none⟩ : Addr) = some (Value.int .i64 x7) ∧
  (w50.cell? (⟨b2, 0, none⟩ : Addr) = some (Value.int .i64 x6) ∧
  (w50.cell? (⟨b3, 0, none⟩ : Addr) = some (Value.int .i64 x5) ∧
  (leaf_Encode.o31 D w50 x5 b4 p20 n14 c20 b2 x7 x6 b13 n1 p1 c1 b3 R))))) ∧
  (newP w49 #[(Value.int .i64 x5)] 3 fun b70 w294 =>
  w294.cell? (⟨b4, 0, none⟩ : Addr) = some (Value.slice p20 n14 c20) ∧
  (w294.cell? (⟨b2, 1, none⟩ : Addr) = some (Value.int .i64 x7) ∧
  (w294.cell? (⟨b2, 0, none⟩ : Addr) = some (Value.int .i64 x6) ∧
  (leaf_Encode.o35 D w294 b13 b4 p20 n14 c20 b2 x7 x6 b70 n1 p1 c1 R)))) ∧
  (newP w49 #[(Value.int .i64 x6), (Value.int .i64 x7), (Value.int .i64 ((n14 : Nat) : Int))] 3 fun b122 w538 =>
  w538.cell? (⟨b3, 0, none⟩ : Addr) = some (Value.int .i64 x5) ∧
  (leaf_Encode.o37 D w538 b13 b3 x5 b122 n1 b4 p1 c1 R)) ∧
  (newP w49 #[(Value.int .i64 ((n1 : Nat) : Int))] 3 fun b157 w704 =>
  w704.cell? (⟨b4, 0, none⟩ : Addr) = some (Value.slice p20 n14 c20) ∧
  (w704.cell? (⟨b2, 1, none⟩ : Addr) = some (Value.int .i64 x7) ∧
  (w704.cell? (⟨b2, 0, none⟩ : Addr) = some (Value.int .i64 x6) ∧
  (w704.cell? (⟨b3, 0, none⟩ : Addr) = some (Value.int .i64 x5) ∧
  (leaf_Encode.o38 D w704 b13 b4 p20 n14 c20 b2 x7 x6 b3 x5 b157 p1 n1 c1 R)))))
def leaf_Encode.o40 (D : Nat) (w1153 : World) (b186 : Nat) (b239 : Nat) (b253 : Nat) (b4 : Nat) (p1 : Option Addr) (n1 : Nat) (c1 : Nat) (R : Ending → World → Prop) : Prop :=
  newP w1153 #[(Value.int .u8 83), (Value.int .u8 76), (Value.int .u8 65), (Value.int .u8 84)] 5 fun b254 w1154 =>
  leaf_Encode.o32 D w1154 b254 b186 b239 b253 b4 p1 n1 c1 R
def leaf_Encode.o41 (D : Nat) (w1087 : World) (b186 : Nat) (b239 : Nat) (n1 : Nat) (b4 : Nat) (p1 : Option Addr) (c1 : Nat) (R : Ending → World → Prop) : Prop :=
  (newP w1087 #[(Value.int .u8 83), (Value.int .u8 76), (Value.int .u8 65), (Value.int .u8 84)] 5 fun b240 w1088 =>
  leaf_Encode.o33 D w1088 b240 b186 b239 n1 b4 p1 c1 R) ∧
  (newP w1087 #[(Value.int .i64 ((n1 : Nat) : Int))] 3 fun b253 w1153 =>
  leaf_Encode.o40 D w1153 b186 b239 b253 b4 p1 n1 c1 R)
def leaf_Encode.o42 (D : Nat) (w1171 : World) (b4 : Nat) (p20 : Option Addr) (n14 : Nat) (c20 : Nat) (b2 : Nat) (x7 : Int) (x6 : Int) (b186 : Nat) (b257 : Nat) (p1 : Option Addr) (n1 : Nat) (c1 : Nat) (R : Ending → World → Prop) : Prop :=
  (newP w1171 #[(Value.int .u8 83), (Value.int .u8 76), (Value.int .u8 65), (Value.int .u8 84)] 5 fun b258 w1172 =>
  w1172.cell? (⟨b4, 0, none⟩ : Addr) = some (Value.slice p20 n14 c20) ∧
  (w1172.cell? (⟨b2, 1, none⟩ : Addr) = some (Value.int .i64 x7) ∧
  (w1172.cell? (⟨b2, 0, none⟩ : Addr) = some (Value.int .i64 x6) ∧
  (leaf_Encode.o34 D w1172 b258 b4 p20 n14 c20 b2 x7 x6 b186 b257 p1 n1 c1 R)))) ∧
  (newP w1171 #[(Value.int .i64 x6), (Value.int .i64 x7), (Value.int .i64 ((n14 : Nat) : Int))] 3 fun b268 w1223 =>
  leaf_Encode.o40 D w1223 b186 b268 b257 b4 p1 n1 c1 R)
def leaf_Encode.o43 (D : Nat) (w842 : World) (b4 : Nat) (p20 : Option Addr) (n14 : Nat) (c20 : Nat) (b2 : Nat) (x7 : Int) (x6 : Int) (b186 : Nat) (n1 : Nat) (p1 : Option Addr) (c1 : Nat) (R : Ending → World → Prop) : Prop :=
  (newP w842 #[(Value.int .u8 83), (Value.int .u8 76), (Value.int .u8 65), (Value.int .u8 84)] 5 fun b187 w843 =>
  w843.cell? (⟨b4, 0, none⟩ : Addr) = some (Value.slice p20 n14 c20) ∧
  (w843.cell? (⟨b2, 1, none⟩ : Addr) = some (Value.int .i64 x7) ∧
  (w843.cell? (⟨b2, 0, none⟩ : Addr) = some (Value.int .i64 x6) ∧
  (leaf_Encode.o35 D w843 b187 b4 p20 n14 c20 b2 x7 x6 b186 n1 p1 c1 R)))) ∧
  (newP w842 #[(Value.int .i64 x6), (Value.int .i64 x7), (Value.int .i64 ((n14 : Nat) : Int))] 3 fun b239 w1087 =>
  leaf_Encode.o41 D w1087 b186 b239 n1 b4 p1 c1 R) ∧
  (newP w842 #[(Value.int .i64 ((n1 : Nat) : Int))] 3 fun b257 w1171 =>
  w1171.cell? (⟨b4, 0, none⟩ : Addr) = some (Value.slice p20 n14 c20) ∧
  (w1171.cell? (⟨b2, 1, none⟩ : Addr) = some (Value.int .i64 x7) ∧
  (w1171.cell? (⟨b2, 0, none⟩ : Addr) = some (Value.int .i64 x6) ∧
  (leaf_Encode.o42 D w1171 b4 p20 n14 c20 b2 x7 x6 b186 b257 p1 n1 c1 R))))
def leaf_Encode.o44 (D : Nat) (w1492 : World) (b3 : Nat) (x5 : Int) (b272 : Nat) (b326 : Nat) (b4 : Nat) (p1 : Option Addr) (n1 : Nat) (c1 : Nat) (R : Ending → World → Prop) : Prop :=
  (newP w1492 #[(Value.int .u8 83), (Value.int .u8 76), (Value.int .u8 65), (Value.int .u8 84)] 5 fun b327 w1493 =>
  w1493.cell? (⟨b3, 0, none⟩ : Addr) = some (Value.int .i64 x5) ∧
  (leaf_Encode.o36 D w1493 b327 b3 x5 b272 b326 b4 p1 n1 c1 R)) ∧
  (newP w1492 #[(Value.int .i64 x5)] 3 fun b334 w1528 =>
  leaf_Encode.o40 D w1528 b334 b272 b326 b4 p1 n1 c1 R)
def leaf_Encode.o45 (D : Nat) (w1241 : World) (b3 : Nat) (x5 : Int) (b272 : Nat) (n1 : Nat) (b4 : Nat) (p1 : Option Addr) (c1 : Nat) (R : Ending → World → Prop) : Prop :=
  (newP w1241 #[(Value.int .u8 83), (Value.int .u8 76), (Value.int .u8 65), (Value.int .u8 84)] 5 fun b273 w1242 =>
  w1242.cell? (⟨b3, 0, none⟩ : Addr) = some (Value.int .i64 x5) ∧
  (leaf_Encode.o37 D w1242 b273 b3 x5 b272 n1 b4 p1 c1 R)) ∧
  (newP w1241 #[(Value.int .i64 x5)] 3 fun b308 w1408 =>
  leaf_Encode.o41 D w1408 b308 b272 n1 b4 p1 c1 R) ∧
  (newP w1241 #[(Value.int .i64 ((n1 : Nat) : Int))] 3 fun b326 w1492 =>
  w1492.cell? (⟨b3, 0, none⟩ : Addr) = some (Value.int .i64 x5) ∧
  (leaf_Encode.o44 D w1492 b3 x5 b272 b326 b4 p1 n1 c1 R))
def leaf_Encode.o46 (D : Nat) (w1546 : World) (b4 : Nat) (p20 : Option Addr) (n14 : Nat) (c20 : Nat) (b2 : Nat) (x7 : Int) (x6 : Int) (b3 : Nat) (x5 : Int) (b338 : Nat) (p1 : Option Addr) (n1 : Nat) (c1 : Nat) (R : Ending → World → Prop) : Prop :=
  (newP w1546 #[(Value.int .u8 83), (Value.int .u8 76), (Value.int .u8 65), (Value.int .u8 84)] 5 fun b339 w1547 =>
  w1547.cell? (⟨b4, 0, none⟩ : Addr) = some (Value.slice p20 n14 c20) ∧
  (w1547.cell? (⟨b2, 1, none⟩ : Addr) = some (Value.int .i64 x7) ∧
  (w1547.cell? (⟨b2, 0, none⟩ : Addr) = some (Value.int .i64 x6) ∧
  (w1547.cell? (⟨b3, 0, none⟩ : Addr) = some (Value.int .i64 x5) ∧
  (leaf_Encode.o38 D w1547 b339 b4 p20 n14 c20 b2 x7 x6 b3 x5 b338 p1 n1 c1 R))))) ∧
  (newP w1546 #[(Value.int .i64 x5)] 3 fun b368 w1685 =>
  w1685.cell? (⟨b4, 0, none⟩ : Addr) = some (Value.slice p20 n14 c20) ∧
  (w1685.cell? (⟨b2, 1, none⟩ : Addr) = some (Value.int .i64 x7) ∧
  (w1685.cell? (⟨b2, 0, none⟩ : Addr) = some (Value.int .i64 x6) ∧
  (leaf_Encode.o42 D w1685 b4 p20 n14 c20 b2 x7 x6 b368 b338 p1 n1 c1 R)))) ∧
  (newP w1546 #[(Value.int .i64 x6), (Value.int .i64 x7), (Value.int .i64 ((n14 : Nat) : Int))] 3 fun b383 w1755 =>
  w1755.cell? (⟨b3, 0, none⟩ : Addr) = some (Value.int .i64 x5) ∧
  (leaf_Encode.o44 D w1755 b3 x5 b383 b338 b4 p1 n1 c1 R))
def leaf_Encode.o47 (D : Nat) (w12 : World) (b4 : Nat) (p20 : Option Addr) (n14 : Nat) (c20 : Nat) (b2 : Nat) (x7 : Int) (x6 : Int) (b3 : Nat) (x5 : Int) (n1 : Nat) (p1 : Option Addr) (c1 : Nat) (R : Ending → World → Prop) : Prop :=
  (newP w12.drew #[(Value.int .u8 83), (Value.int .u8 76), (Value.int .u8 65), (Value.int .u8 84)] 5 fun b13 w49 =>
  w49.cell? (⟨b4, 0, none⟩ : Addr) = some (Value.slice p20 n14 c20) ∧
  (w49.cell? (⟨b2, 1, none⟩ : Addr) = some (Value.int .i64 x7) ∧
  (w49.cell? (⟨b2, 0, none⟩ : Addr) = some (Value.int .i64 x6) ∧
  (w49.cell? (⟨b3, 0, none⟩ : Addr) = some (Value.int .i64 x5) ∧
  (leaf_Encode.o39 D w49 b13 b4 p20 n14 c20 b2 x7 x6 b3 x5 n1 p1 c1 R))))) ∧
  (newP w12.drew #[(Value.int .i64 x5)] 3 fun b186 w842 =>
  w842.cell? (⟨b4, 0, none⟩ : Addr) = some (Value.slice p20 n14 c20) ∧
  (w842.cell? (⟨b2, 1, none⟩ : Addr) = some (Value.int .i64 x7) ∧
  (w842.cell? (⟨b2, 0, none⟩ : Addr) = some (Value.int .i64 x6) ∧
  (leaf_Encode.o43 D w842 b4 p20 n14 c20 b2 x7 x6 b186 n1 p1 c1 R)))) ∧
  (newP w12.drew #[(Value.int .i64 x6), (Value.int .i64 x7), (Value.int .i64 ((n14 : Nat) : Int))] 3 fun b272 w1241 =>
  w1241.cell? (⟨b3, 0, none⟩ : Addr) = some (Value.int .i64 x5) ∧
  (leaf_Encode.o45 D w1241 b3 x5 b272 n1 b4 p1 c1 R)) ∧
  (newP w12.drew #[(Value.int .i64 ((n1 : Nat) : Int))] 3 fun b338 w1546 =>
  w1546.cell? (⟨b4, 0, none⟩ : Addr) = some (Value.slice p20 n14 c20) ∧
  (w1546.cell? (⟨b2, 1, none⟩ : Addr) = some (Value.int .i64 x7) ∧
  (w1546.cell? (⟨b2, 0, none⟩ : Addr) = some (Value.int .i64 x6) ∧
  (w1546.cell? (⟨b3, 0, none⟩ : Addr) = some (Value.int .i64 x5) ∧
  (leaf_Encode.o46 D w1546 b4 p20 n14 c20 b2 x7 x6 b3 x5 b338 p1 n1 c1 R)))))
def leaf_Encode.main (a0 : Array Value) (a1_0 : Int) (a1_1 : Int) (a2 : Int) (w : World) (R : Ending → World → Prop) : Prop :=
  newP w a0 32 fun b1 w1 =>
  newP w1 #[(Value.int .i64 a1_0), (Value.int .i64 a1_1)] 34 fun b2 w2 =>
  newP w2 #[(Value.int .i64 a2)] 3 fun b3 w3 =>
  ∃ (x1 : Int), w3.cell? (⟨b3, 0, none⟩ : Addr) = some (Value.int .i64 x1) ∧
  (cond (decide (x1 < 1)) (
      R (.returned (Value.tuple #[(Value.slice none 0 0), (Value.int .i64 1)])) w3) (
      ∃ (x2 : Int), w3.cell? (⟨b3, 0, none⟩ : Addr) = some (Value.int .i64 x2) ∧
      (cond (decide (x2 > 1073741824)) (
          R (.returned (Value.tuple #[(Value.slice none 0 0), (Value.int .i64 1)])) w3) (
          ∃ (cs1 : Array Value), cs1.size = 24 ∧ CellsAt w3 (⟨b1, 0, none⟩ : Addr) cs1.toList ∧
          (∃ (cs2 : Array Value), cs2.size = 2 ∧ CellsAt w3 (⟨b2, 0, none⟩ : Addr) cs2.toList ∧
            (callP Try.prog 48 #[(Value.agg cs1), (Value.agg cs2)] w3 (fun v1 w4 =>
                dI .i64 v1 fun x3 =>
                cond (x3 != 0) (
                  R (.returned (Value.tuple #[(Value.slice none 0 0), (Value.int .i64 x3)])) w4) (
                  ∃ (cs3 : Array Value), cs3.size = 24 ∧ CellsAt w4 (⟨b1, 0, none⟩ : Addr) cs3.toList ∧
                  (∃ (cs4 : Array Value), cs4.size = 2 ∧ CellsAt w4 (⟨b2, 0, none⟩ : Addr) cs4.toList ∧
                    (callP Try.prog 49 #[(Value.agg cs3), (Value.agg cs4)] w4 (fun v2 w6 =>
                        dS v2 fun p1 n1 c1 =>
                        newP w6 #[(Value.slice none 0 0)] 22 fun b4 w8 =>
                        callP Try.prog 50 #[(Value.slice p1 n1 c1), (Value.int .i64 52)] w8 (fun v3 w9 =>
                          dFn v3 fun gf fi lb =>
                          chk (Nat.beq fi.size 0 && cx.fns.contains gf && true && true && true && true) (
                          ∃ (α : Type) (enc : α → Value) (Kq : World → World → Prop) (S Sp : List α → Prop) (N : Nat) (I Ix : List α → World → Prop), RFok Try.prog gf lb enc Kq S Sp N I Ix w9 ∧
                          ((∀ (pre : List α) (x : α) (w11 : World), I pre w11 → pre.length < N →
                          dS (enc x) fun p2 n2 c2 =>
                          ∃ (p3 : Option Addr) (n3 : Nat) (c3 : Nat), w11.drew.cell? (⟨b4, 0, none⟩ : Addr) = some (Value.slice p3 n3 c3) ∧
                          (∃ (x4 : Int), w11.drew.cell? (⟨b3, 0, none⟩ : Addr) = some (Value.int .i64 x4) ∧
                          (∃ (p4 : Option Addr) (n4 : Nat) (c4 : Nat), w11.drew.cell? (⟨b4, 0, none⟩ : Addr) = some (Value.slice p4 n4 c4) ∧
                          (leaf_Encode.o11 α Kq I pre x w11 x4 b4 p4 n4 c4 p3 n3 c3 n2 p2 b3)))) ∧
                          ((∀ (D : Nat) (xs : List α) (w12 : World), w9.heap.size ≤ D → S xs → I xs w12 → w12.heap[D]? = some (Obj.deferred (some [])) →
                          ∃ (x5 : Int), w12.drew.cell? (⟨b3, 0, none⟩ : Addr) = some (Value.int .i64 x5) ∧
                          (∃ (x6 : Int), w12.drew.cell? (⟨b2, 0, none⟩ : Addr) = some (Value.int .i64 x6) ∧
                          (∃ (x7 : Int), w12.drew.cell? (⟨b2, 1, none⟩ : Addr) = some (Value.int .i64 x7) ∧
                          (∃ (p20 : Option Addr) (n14 : Nat) (c20 : Nat), w12.drew.cell? (⟨b4, 0, none⟩ : Addr) = some (Value.slice p20 n14 c20) ∧
                          (leaf_Encode.o47 D w12 b4 p20 n14 c20 b2 x7 x6 b3 x5 n1 p1 c1 R))))) ∧
                          (∀ (D : Nat) (pre : List α) (w13 : World), w9.heap.size ≤ D → Sp pre → Ix pre w13 → w13.heap[D]? = some (Obj.deferred (some [])) →
                          w13.heap[D]? = some (Obj.deferred (some [])) ∧
                          R (.returned (Value.tuple #[(Value.slice none 0 0), (Value.int .i64 0)])) (w13.putObj D (Obj.deferred none))))))) (fun ch w10 => R (.panicked ch) w10)) (fun ch w7 => R (.panicked ch) w7))))) (fun ch w5 => R (.panicked ch) w5)))))))
abbrev leaf_Encode.C (a0 : Array Value) (a1_0 : Int) (a1_1 : Int) (a2 : Int) (w : World) (R : Ending → World → Prop) : Prop := Calls Try.prog 30 #[(Value.agg a0), (Value.agg #[(Value.int .i64 a1_0), (Value.int .i64 a1_1)]), (Value.int .i64 a2)] w R
noncomputable def leaf_Encode.code : Code := (Try.f30.body).getD .skip
noncomputable def leaf_Encode.sk (R : Ending → World → Prop) : TSk := (.seq .leaf (.seq .leaf (.seq .leaf (.seq .leaf (.seq .leaf (.rf .leaf))))))
def leaf_Encode.owed (R : Ending → World → Prop) : Prop :=
  True
theorem leaf_Encode.pays (R : Ending → World → Prop) : leaf_Encode.owed R := trivial
set_option maxRecDepth 100000 in
theorem leaf_Encode.ok {a0 : Array Value} {a1_0 : Int} {a1_1 : Int} {a2 : Int} {w : World} {R : Ending → World → Prop} (h : leaf_Encode.main a0 a1_0 a1_1 a2 w R) : leaf_Encode.C a0 a1_0 a1_1 a2 w R :=
  evT_ok cxok (c := cx) Try.func30 (code := leaf_Encode.code) (by kernel_rfl) [.tmp 6, .tmp 7] (by kernel_rfl) 73 (by kernel_rfl) (leaf_Encode.sk R) (args := [(Value.agg a0), (Value.agg #[(Value.int .i64 a1_0), (Value.int .i64 a1_1)]), (Value.int .i64 a2)]) (Nat.le_of_ble_eq_true rfl) (by kernel_rfl) (o := leaf_Encode.owed R) (by kernel_rfl) (leaf_Encode.pays R) h

/-! ### (*stopcock/basin.Basin).Flush: function 31 -/
def basin_Basin_Flush.main (a0 : Option Addr) (w : World) (R : Ending → World → Prop) : Prop :=
  callP Try.prog 25 #[(Value.pointer a0)] w (fun v1 w1 =>
    dI .i64 v1 fun x1 =>
    cond (x1 != 0) (
      R (.returned (Value.int .i64 x1)) w1) (
      callP Try.prog 29 #[(Value.pointer a0)] w1 (fun v2 w3 =>
        dB v2 fun b1 =>
        cond b1 (
          R (.returned (Value.int .i64 10)) w3) (
          optP a0 fun d1 =>
          ∃ (p1 : Option Addr) (n1 : Nat) (c1 : Nat), w3.drew.cell? d1 = some (Value.slice p1 n1 c1) ∧
          (optP a0 fun d2 =>
            ∃ (p2 : Option Addr) (n2 : Nat) (c2 : Nat), w3.drew.cell? (d2.add 1) = some (Value.slice p2 n2 c2) ∧
            (copyP w3.drew p1 n1 p2 n2 64 fun w5 =>
              optP a0 fun d3 =>
              (w5.cell? (d3.add 2)).isSome = true ∧ w5.frozen? (d3.add 2) = false ∧ ∀ w6, w6 = w5.setCell (d3.add 2) (Value.slice none 0 0) →
              (R (.returned (Value.int .i64 0)) w6))))) (fun ch w4 => R (.panicked ch) w4))) (fun ch w2 => R (.panicked ch) w2)
abbrev basin_Basin_Flush.C (a0 : Option Addr) (w : World) (R : Ending → World → Prop) : Prop := Calls Try.prog 31 #[(Value.pointer a0)] w R
noncomputable def basin_Basin_Flush.code : Code := (Try.f31.body).getD .skip
noncomputable def basin_Basin_Flush.sk (R : Ending → World → Prop) : Sk := .leaf
def basin_Basin_Flush.owed (R : Ending → World → Prop) : Prop :=
  True
theorem basin_Basin_Flush.pays (R : Ending → World → Prop) : basin_Basin_Flush.owed R := trivial
set_option maxRecDepth 100000 in
theorem basin_Basin_Flush.ok {a0 : Option Addr} {w : World} {R : Ending → World → Prop} (h : basin_Basin_Flush.main a0 w R) : basin_Basin_Flush.C a0 w R :=
  ev_ok cxok (c := cx) Try.func31 (code := basin_Basin_Flush.code) (by kernel_rfl) [.tmp 2] (by kernel_rfl) 23 (by kernel_rfl) (basin_Basin_Flush.sk R) (args := [(Value.pointer a0)]) (Nat.le_of_ble_eq_true rfl) (by kernel_rfl) (o := basin_Basin_Flush.owed R) (by kernel_rfl) (basin_Basin_Flush.pays R) h

/-! ### stopcock/stopcockref01.Whole: function 32 -/
def stopcockref01_Whole.main (a0r : Nat) (a0m : Nat) (w : World) (R : Ending → World → Prop) : Prop :=
  callP Try.prog 54 #[(Value.complex .f64 a0r a0m)] w (fun v1 w1 =>
    dT v1 fun vs1 =>
    optP (vs1[0]?) fun v2 =>
    dI .i64 v2 fun x1 =>
    optP (vs1[1]?) fun v3 =>
    dI .i64 v3 fun x2 =>
    optP (vs1[2]?) fun v4 =>
    dI .i64 v4 fun x3 =>
    R (.returned (Value.bool (x3 == 0))) w1) (fun ch w2 => R (.panicked ch) w2)
abbrev stopcockref01_Whole.C (a0r : Nat) (a0m : Nat) (w : World) (R : Ending → World → Prop) : Prop := Calls Try.prog 32 #[(Value.complex .f64 a0r a0m)] w R
noncomputable def stopcockref01_Whole.code : Code := (Try.f32.body).getD .skip
noncomputable def stopcockref01_Whole.sk (R : Ending → World → Prop) : Sk := .leaf
def stopcockref01_Whole.owed (R : Ending → World → Prop) : Prop :=
  True
theorem stopcockref01_Whole.pays (R : Ending → World → Prop) : stopcockref01_Whole.owed R := trivial
set_option maxRecDepth 100000 in
theorem stopcockref01_Whole.ok {a0r : Nat} {a0m : Nat} {w : World} {R : Ending → World → Prop} (h : stopcockref01_Whole.main a0r a0m w R) : stopcockref01_Whole.C a0r a0m w R :=
  ev_ok cxok (c := cx) Try.func32 (code := stopcockref01_Whole.code) (by kernel_rfl) [.tmp 2] (by kernel_rfl) 14 (by kernel_rfl) (stopcockref01_Whole.sk R) (args := [(Value.complex .f64 a0r a0m)]) (Nat.le_of_ble_eq_true rfl) (by kernel_rfl) (o := stopcockref01_Whole.owed R) (by kernel_rfl) (stopcockref01_Whole.pays R) h

/-! ### stopcock/leaf.Count: function 33 -/
def leaf_Count.main (a0p : Option Addr) (a0n : Nat) (a0c : Nat) (w : World) (R : Ending → World → Prop) : Prop :=
  callP Try.prog 34 #[(Value.slice a0p a0n a0c)] w (fun v1 w1 =>
    dT v1 fun vs1 =>
    optP (vs1[0]?) fun v2 =>
    dA v2 fun cs1 =>
    optP (vs1[1]?) fun v3 =>
    dB v3 fun b1 =>
    newP w1 #[(Value.int .i64 0), (Value.int .i64 0), (Value.int .i64 0), (Value.int .i64 0), (Value.int .i64 0)] 78 fun b2 w3 =>
    chk (decide (cs1.size = 5)) (
      Wr w3 (⟨b2, 0, none⟩ : Addr) cs1.toList ∧ ∀ w4, w4 = w3.setCells (⟨b2, 0, none⟩ : Addr).block (⟨b2, 0, none⟩ : Addr).off cs1.toList →
      (cond (!b1) (
          R (.returned (Value.tuple #[(Value.int .i64 0), (Value.int .i64 0), (Value.int .i64 11)])) w4) (
          ∃ (x1 : Int), w4.cell? (⟨b2, 3, none⟩ : Addr) = some (Value.int .i64 x1) ∧
          (∃ (x2 : Int), w4.cell? (⟨b2, 0, none⟩ : Addr) = some (Value.int .i64 x2) ∧
            (∀ k1 : Nat,
              R (.returned (Value.tuple #[(Value.int .i64 x1), (Value.int .i64 x2), (Value.int .i64 0)])) (w4.drewN k1))))))) (fun ch w2 => R (.panicked ch) w2)
abbrev leaf_Count.C (a0p : Option Addr) (a0n : Nat) (a0c : Nat) (w : World) (R : Ending → World → Prop) : Prop := Calls Try.prog 33 #[(Value.slice a0p a0n a0c)] w R
noncomputable def leaf_Count.code : Code := (Try.f33.body).getD .skip
noncomputable def leaf_Count.sk (R : Ending → World → Prop) : Sk := .leaf
def leaf_Count.owed (R : Ending → World → Prop) : Prop :=
  True
theorem leaf_Count.pays (R : Ending → World → Prop) : leaf_Count.owed R := trivial
set_option maxRecDepth 100000 in
theorem leaf_Count.ok {a0p : Option Addr} {a0n : Nat} {a0c : Nat} {w : World} {R : Ending → World → Prop} (h : leaf_Count.main a0p a0n a0c w R) : leaf_Count.C a0p a0n a0c w R :=
  ev_ok cxok (c := cx) Try.func33 (code := leaf_Count.code) (by kernel_rfl) [.tmp 2, .tmp 3, .tmp 4] (by kernel_rfl) 18 (by kernel_rfl) (leaf_Count.sk R) (args := [(Value.slice a0p a0n a0c)]) (Nat.le_of_ble_eq_true rfl) (by kernel_rfl) (o := leaf_Count.owed R) (by kernel_rfl) (leaf_Count.pays R) h

/-! ### stopcock/leaf.read: function 34 -/
def leaf_read.main (a0p : Option Addr) (a0n : Nat) (a0c : Nat) (w : World) (R : Ending → World → Prop) : Prop :=
  newP w #[(Value.int .i64 0), (Value.int .i64 0), (Value.int .i64 0), (Value.int .i64 0), (Value.int .i64 0)] 78 fun b1 w1 =>
  callP Try.prog 35 #[(Value.slice a0p a0n a0c)] w1 (fun v1 w2 =>
    dT v1 fun vs1 =>
    optP (vs1[0]?) fun v2 =>
    dS v2 fun p1 n1 c1 =>
    optP (vs1[1]?) fun v3 =>
    dI .i64 v3 fun x1 =>
    newP w2 #[(Value.slice none 0 0)] 44 fun b2 w4 =>
    (w4.cell? (⟨b2, 0, none⟩ : Addr)).isSome = true ∧ w4.frozen? (⟨b2, 0, none⟩ : Addr) = false ∧ ∀ w5, w5 = w4.setCell (⟨b2, 0, none⟩ : Addr) (Value.slice p1 n1 c1) →
    (cond (x1 != 0) (
        Wr w5 (⟨b1, 0, none⟩ : Addr) [(Value.int .i64 0), (Value.int .i64 0), (Value.int .i64 0), (Value.int .i64 0), (Value.int .i64 0)] ∧ ∀ w6, w6 = w5.setCells (⟨b1, 0, none⟩ : Addr).block (⟨b1, 0, none⟩ : Addr).off [(Value.int .i64 0), (Value.int .i64 0), (Value.int .i64 0), (Value.int .i64 0), (Value.int .i64 0)] →
        (∃ (cs1 : Array Value), cs1.size = 5 ∧ CellsAt w6 (⟨b1, 0, none⟩ : Addr) cs1.toList ∧
          (R (.returned (Value.tuple #[(Value.agg cs1), (Value.bool false)])) w6))) (
        ∃ (p2 : Option Addr) (n2 : Nat) (c2 : Nat), w5.cell? (⟨b2, 0, none⟩ : Addr) = some (Value.slice p2 n2 c2) ∧
        (chk (decide (4 ≤ ((c2 : Nat) : Int))) (
            ∃ (ns1 : List Int), ns1.length = 4 ∧ CellsO w5 (slA p2 c2 0 1) (ns1.map (Value.int .u8)) ∧
            (cond (!((strOf ns1).toList == (⟨#[83, 76, 65, 84]⟩ : ByteArray).toList)) (
                Wr w5 (⟨b1, 0, none⟩ : Addr) [(Value.int .i64 0), (Value.int .i64 0), (Value.int .i64 0), (Value.int .i64 0), (Value.int .i64 0)] ∧ ∀ w7, w7 = w5.setCells (⟨b1, 0, none⟩ : Addr).block (⟨b1, 0, none⟩ : Addr).off [(Value.int .i64 0), (Value.int .i64 0), (Value.int .i64 0), (Value.int .i64 0), (Value.int .i64 0)] →
                (∃ (cs2 : Array Value), cs2.size = 5 ∧ CellsAt w7 (⟨b1, 0, none⟩ : Addr) cs2.toList ∧
                  (R (.returned (Value.tuple #[(Value.agg cs2), (Value.bool false)])) w7))) (
                callP Try.prog 55 #[(Value.int .i64 4), (Value.int .i64 4), (Value.pointer (some (⟨b2, 0, none⟩ : Addr)))] w5 (fun v4 w8 =>
                  dI .i64 v4 fun x2 =>
                  callP Try.prog 55 #[(Value.int .i64 8), (Value.int .i64 1), (Value.pointer (some (⟨b2, 0, none⟩ : Addr)))] w8 (fun v5 w10 =>
                    dI .i64 v5 fun x3 =>
                    callP Try.prog 55 #[(Value.int .i64 9), (Value.int .i64 1), (Value.pointer (some (⟨b2, 0, none⟩ : Addr)))] w10 (fun v6 w12 =>
                      dI .i64 v6 fun x4 =>
                      callP Try.prog 55 #[(Value.int .i64 10), (Value.int .i64 1), (Value.pointer (some (⟨b2, 0, none⟩ : Addr)))] w12 (fun v7 w14 =>
                        dI .i64 v7 fun x5 =>
                        callP Try.prog 55 #[(Value.int .i64 11), (Value.int .i64 2), (Value.pointer (some (⟨b2, 0, none⟩ : Addr)))] w14 (fun v8 w16 =>
                          dI .i64 v8 fun x6 =>
                          newP w16 #[(Value.int .i64 0), (Value.int .i64 0), (Value.int .i64 0), (Value.int .i64 0), (Value.int .i64 0)] 78 fun b3 w18 =>
                          Wr w18 (⟨b3, 0, none⟩ : Addr) [(Value.int .i64 x2), (Value.int .i64 x3), (Value.int .i64 x4), (Value.int .i64 x5), (Value.int .i64 x6)] ∧ ∀ w19, w19 = w18.setCells (⟨b3, 0, none⟩ : Addr).block (⟨b3, 0, none⟩ : Addr).off [(Value.int .i64 x2), (Value.int .i64 x3), (Value.int .i64 x4), (Value.int .i64 x5), (Value.int .i64 x6)] →
                          (∃ (cs3 : Array Value), cs3.size = 5 ∧ CellsAt w19.drew (⟨b3, 0, none⟩ : Addr) cs3.toList ∧
                          (∃ (x7 : Int), w19.drew.cell? (⟨b3, 0, none⟩ : Addr) = some (Value.int .i64 x7) ∧
                          (cond (decide (x7 ≥ 1)) (
                          ∃ (x8 : Int), w19.drew.cell? (⟨b3, 0, none⟩ : Addr) = some (Value.int .i64 x8) ∧
                          (cond (decide (x8 ≤ 1073741824)) (
                          ∃ (x9 : Int), w19.drew.cell? (⟨b3, 3, none⟩ : Addr) = some (Value.int .i64 x9) ∧
                          (chk (decide (cs3.size = 5)) (
                          Wr w19.drew (⟨b1, 0, none⟩ : Addr) cs3.toList ∧ ∀ w20, w20 = w19.drew.setCells (⟨b1, 0, none⟩ : Addr).block (⟨b1, 0, none⟩ : Addr).off cs3.toList →
                          (w20.cell? (⟨b3, 3, none⟩ : Addr) = some (Value.int .i64 x9) ∧
                          (∃ (cs4 : Array Value), cs4.size = 5 ∧ CellsAt w20 (⟨b1, 0, none⟩ : Addr) cs4.toList ∧
                          (R (.returned (Value.tuple #[(Value.agg cs4), (Value.bool (decide (x9 < 12)))])) w20)))))) (
                          chk (decide (cs3.size = 5)) (
                          Wr w19.drew (⟨b1, 0, none⟩ : Addr) cs3.toList ∧ ∀ w21, w21 = w19.drew.setCells (⟨b1, 0, none⟩ : Addr).block (⟨b1, 0, none⟩ : Addr).off cs3.toList →
                          (∃ (cs5 : Array Value), cs5.size = 5 ∧ CellsAt w21 (⟨b1, 0, none⟩ : Addr) cs5.toList ∧
                          (R (.returned (Value.tuple #[(Value.agg cs5), (Value.bool false)])) w21)))))) (
                          chk (decide (cs3.size = 5)) (
                          Wr w19.drew (⟨b1, 0, none⟩ : Addr) cs3.toList ∧ ∀ w22, w22 = w19.drew.setCells (⟨b1, 0, none⟩ : Addr).block (⟨b1, 0, none⟩ : Addr).off cs3.toList →
                          (∃ (cs6 : Array Value), cs6.size = 5 ∧ CellsAt w22 (⟨b1, 0, none⟩ : Addr) cs6.toList ∧
                          (R (.returned (Value.tuple #[(Value.agg cs6), (Value.bool false)])) w22)))))))) (fun ch w17 => R (.panicked ch) w17)) (fun ch w15 => R (.panicked ch) w15)) (fun ch w13 => R (.panicked ch) w13)) (fun ch w11 => R (.panicked ch) w11)) (fun ch w9 => R (.panicked ch) w9)))))))) (fun ch w3 => R (.panicked ch) w3)
abbrev leaf_read.C (a0p : Option Addr) (a0n : Nat) (a0c : Nat) (w : World) (R : Ending → World → Prop) : Prop := Calls Try.prog 34 #[(Value.slice a0p a0n a0c)] w R
noncomputable def leaf_read.code : Code := (Try.f34.body).getD .skip
noncomputable def leaf_read.sk (R : Ending → World → Prop) : Sk := .leaf
def leaf_read.owed (R : Ending → World → Prop) : Prop :=
  True
theorem leaf_read.pays (R : Ending → World → Prop) : leaf_read.owed R := trivial
set_option maxRecDepth 100000 in
theorem leaf_read.ok {a0p : Option Addr} {a0n : Nat} {a0c : Nat} {w : World} {R : Ending → World → Prop} (h : leaf_read.main a0p a0n a0c w R) : leaf_read.C a0p a0n a0c w R :=
  ev_ok cxok (c := cx) Try.func34 (code := leaf_read.code) (by kernel_rfl) [.cell 2 78, .tmp 3] (by kernel_rfl) 48 (by kernel_rfl) (leaf_read.sk R) (args := [(Value.slice a0p a0n a0c)]) (Nat.le_of_ble_eq_true rfl) (by kernel_rfl) (o := leaf_read.owed R) (by kernel_rfl) (leaf_read.pays R) h

/-! ### stopcock/seal.Open: function 35 -/
def seal_Open.main (a0p : Option Addr) (a0n : Nat) (a0c : Nat) (w : World) (R : Ending → World → Prop) : Prop :=
  cond (((a0n : Nat) : Int) != 64) (
    R (.returned (Value.tuple #[(Value.slice none 0 0), (Value.int .i64 6)])) w) (
    chk (decide (60 ≤ ((a0c : Nat) : Int))) (
      callP Try.prog 57 #[(Value.slice (slA a0p a0c 0 1) 60 a0c)] w (fun v1 w1 =>
        dT v1 fun vs1 =>
        optP (vs1[0]?) fun v2 =>
        dS v2 fun p1 n1 c1 =>
        optP (vs1[1]?) fun v3 =>
        dI .i64 v3 fun x1 =>
        callP Try.prog 58 #[(Value.slice p1 n1 c1), (Value.slice a0p a0n a0c)] w1 (fun v4 w3 =>
          dB v4 fun b1 =>
          cond (!b1) (
            R (.returned (Value.tuple #[(Value.slice none 0 0), (Value.int .i64 2)])) w3) (
            chk (decide (60 ≤ ((a0c : Nat) : Int))) (
              callP Try.prog 46 #[(Value.slice (slA a0p a0c 0 1) 60 a0c)] w3 (fun v5 w5 =>
                dS v5 fun p2 n2 c2 =>
                R (.returned (Value.tuple #[(Value.slice p2 n2 c2), (Value.int .i64 0)])) w5) (fun ch w6 => R (.panicked ch) w6)))) (fun ch w4 => R (.panicked ch) w4)) (fun ch w2 => R (.panicked ch) w2)))
abbrev seal_Open.C (a0p : Option Addr) (a0n : Nat) (a0c : Nat) (w : World) (R : Ending → World → Prop) : Prop := Calls Try.prog 35 #[(Value.slice a0p a0n a0c)] w R
noncomputable def seal_Open.code : Code := (Try.f35.body).getD .skip
noncomputable def seal_Open.sk (R : Ending → World → Prop) : Sk := .leaf
def seal_Open.owed (R : Ending → World → Prop) : Prop :=
  True
theorem seal_Open.pays (R : Ending → World → Prop) : seal_Open.owed R := trivial
set_option maxRecDepth 100000 in
theorem seal_Open.ok {a0p : Option Addr} {a0n : Nat} {a0c : Nat} {w : World} {R : Ending → World → Prop} (h : seal_Open.main a0p a0n a0c w R) : seal_Open.C a0p a0n a0c w R :=
  ev_ok cxok (c := cx) Try.func35 (code := seal_Open.code) (by kernel_rfl) [.tmp 2, .tmp 3] (by kernel_rfl) 22 (by kernel_rfl) (seal_Open.sk R) (args := [(Value.slice a0p a0n a0c)]) (Nat.le_of_ble_eq_true rfl) (by kernel_rfl) (o := seal_Open.owed R) (by kernel_rfl) (seal_Open.pays R) h

/-! ### stopcock/leaf.state: function 36 -/
def leaf_state.k1 (t0p : Option Addr) (t0n : Nat) (t0c : Nat) (t3 : Nat) (t4 : Nat) (t6 : Int) (t7 : Nat) (t12r : Nat) (t12m : Nat) (t14 : Int) (t48p : Option Addr) (t48n : Nat) (t48c : Nat) (t49 : Int) (t50 : Int) (w : World) (R : Ending → World → Prop) (C1 : Option Addr → Nat → Nat → Nat → Nat → Int → World → Prop) (C2 : Option Addr → Nat → Nat → Nat → Nat → Int → Nat → Int → Option Addr → Nat → Nat → Int → Int → World → Prop) : Prop :=
  chk (decide (0 ≤ t6)) (
    chk (decide (t6 < (8 : Int))) (
      ∃ (p2 : Option Addr) (n2 : Nat) (c2 : Nat), w.cell? ((⟨t4, 16, none⟩ : Addr).add (t6.toNat * 1)) = some (Value.slice p2 n2 c2) ∧
      (newP w #[(Value.complex .f64 t12r t12m)] 56 fun b4 w12 =>
        appP w12 p2 n2 c2 1 (CellsO w12 (some ⟨b4, 0, none⟩)) 56 1 16 #[(Value.complex .f64 0 0)] fun p3 c3 w13 =>
        chk (decide (0 ≤ t6)) (
          chk (decide (t6 < (8 : Int))) (
            (w13.cell? ((⟨t4, 16, none⟩ : Addr).add (t6.toNat * 1))).isSome = true ∧ w13.frozen? ((⟨t4, 16, none⟩ : Addr).add (t6.toNat * 1)) = false ∧ ∀ w14, w14 = w13.setCell ((⟨t4, 16, none⟩ : Addr).add (t6.toNat * 1)) (Value.slice p3 (n2 + 1) c3) →
            (C2 t0p t0n t0c t3 t4 t6 t7 t14 t48p t48n t48c t49 (IntKind.i64.wrap (t50 + 1)) w14))))))
def leaf_state.k2 (t0p : Option Addr) (t0n : Nat) (t0c : Nat) (t3 : Nat) (t4 : Nat) (t6 : Int) (t7 : Nat) (t14 : Int) (w : World) (R : Ending → World → Prop) (C1 : Option Addr → Nat → Nat → Nat → Nat → Int → World → Prop) : Prop :=
  ∃ (cs7 : Array Value), cs7.size = 2 ∧ CellsAt w.drew (⟨t7, 0, none⟩ : Addr) cs7.toList ∧
  (∃ (x9 : Int), w.drew.cell? (⟨t7, 1, none⟩ : Addr) = some (Value.int .i64 x9) ∧
    (chk (decide (0 ≤ (IntKind.i64.wrap (2 * x9)))) (
        chk (decide ((IntKind.i64.wrap (2 * x9)) ≤ ((t0n : Nat) : Int))) (
          chk (decide (0 ≤ t6)) (
            chk (decide (t6 < (8 : Int))) (
              chk (decide (cs7.size = 2)) (
                Wr w.drew ((⟨t4, 0, none⟩ : Addr).add (t6.toNat * 2)) cs7.toList ∧ ∀ w15, w15 = w.drew.setCells ((⟨t4, 0, none⟩ : Addr).add (t6.toNat * 2)).block ((⟨t4, 0, none⟩ : Addr).add (t6.toNat * 2)).off cs7.toList →
                (w15.cell? (⟨t7, 1, none⟩ : Addr) = some (Value.int .i64 x9) ∧
                  (C1 (slA t0p t0c ((IntKind.i64.wrap (2 * x9)).toNat) 1) (t0n - (IntKind.i64.wrap (2 * x9)).toNat) (t0c - (IntKind.i64.wrap (2 * x9)).toNat) t3 t4 (IntKind.i64.wrap (t14 + 1)) w15)))))))))
def leaf_state.b2 (t0p : Option Addr) (t0n : Nat) (t0c : Nat) (t3 : Nat) (t4 : Nat) (t6 : Int) (t7 : Nat) (t14 : Int) (t48p : Option Addr) (t48n : Nat) (t48c : Nat) (t49 : Int) (t50 : Int) (w : World) (R : Ending → World → Prop) (C1 : Option Addr → Nat → Nat → Nat → Nat → Int → World → Prop) (C2 : Option Addr → Nat → Nat → Nat → Nat → Int → Nat → Int → Option Addr → Nat → Nat → Int → Int → World → Prop) : Prop :=
  cond (decide (t50 < t49)) (
    chk (decide (0 ≤ t50)) (
      chk (decide (t50 < ((t48n : Nat) : Int))) (
        optP t48p fun d3 =>
        ∃ (x6 : Int), w.cell? (d3.add (t50.toNat * 1)) = some (Value.int .i64 x6) ∧
        (cond (decide (x6 > 0)) (
            ∃ (x7 : Int), w.cell? (⟨t3, 1, none⟩ : Addr) = some (Value.int .i64 x7) ∧
            (callP Try.prog 60 #[(Value.int .i64 (IntKind.i64.wrap (x6 - 1))), (Value.int .i64 x7)] w (fun v4 w9 =>
                dT v4 fun vs2 =>
                optP (vs2[0]?) fun v5 =>
                dC v5 fun r1 m1 =>
                optP (vs2[1]?) fun v6 =>
                dI .i64 v6 fun x8 =>
                cond (x8 != 0) (
                  ∃ (cs5 : Array Value), cs5.size = 24 ∧ CellsAt w9 (⟨t4, 0, none⟩ : Addr) cs5.toList ∧
                  (chk (decide (cs5.size = 24)) (
                      Wr w9 (⟨t4, 0, none⟩ : Addr) cs5.toList ∧ ∀ w11, w11 = w9.setCells (⟨t4, 0, none⟩ : Addr).block (⟨t4, 0, none⟩ : Addr).off cs5.toList →
                      (∃ (cs6 : Array Value), cs6.size = 24 ∧ CellsAt w11 (⟨t4, 0, none⟩ : Addr) cs6.toList ∧
                        (R (.returned (Value.tuple #[(Value.agg cs6), (Value.bool false)])) w11))))) (
                  leaf_state.k1 t0p t0n t0c t3 t4 t6 t7 r1 m1 t14 t48p t48n t48c t49 t50 w9 R C1 C2)) (fun ch w10 => R (.panicked ch) w10))) (
            leaf_state.k1 t0p t0n t0c t3 t4 t6 t7 13830554455654793216 0 t14 t48p t48n t48c t49 t50 w R C1 C2))))) (
    leaf_state.k2 t0p t0n t0c t3 t4 t6 t7 t14 w R C1)
def leaf_state.l2 (t0p : Option Addr) (t0n : Nat) (t0c : Nat) (t3 : Nat) (t4 : Nat) (t6 : Int) (t7 : Nat) (t14 : Int) (t48p : Option Addr) (t48n : Nat) (t48c : Nat) (t49 : Int) (t50 : Int) (w : World) (R : Ending → World → Prop) (C1 : Option Addr → Nat → Nat → Nat → Nat → Int → World → Prop) : Prop :=
  ∃ (I : Option Addr → Nat → Nat → Nat → Nat → Int → Nat → Int → Option Addr → Nat → Nat → Int → Int → World → Prop) (m : Option Addr → Nat → Nat → Nat → Nat → Int → Nat → Int → Option Addr → Nat → Nat → Int → Int → World → Nat), I t0p t0n t0c t3 t4 t6 t7 t14 t48p t48n t48c t49 t50 w ∧
  ∀ (t0p : Option Addr) (t0n : Nat) (t0c : Nat) (t3 : Nat) (t4 : Nat) (t6 : Int) (t7 : Nat) (t14 : Int) (t48p : Option Addr) (t48n : Nat) (t48c : Nat) (t49 : Int) (t50 : Int) (w : World), I t0p t0n t0c t3 t4 t6 t7 t14 t48p t48n t48c t49 t50 w →
  leaf_state.b2 t0p t0n t0c t3 t4 t6 t7 t14 t48p t48n t48c t49 t50 w R C1 (fun t0p' t0n' t0c' t3' t4' t6' t7' t14' t48p' t48n' t48c' t49' t50' w' => I t0p' t0n' t0c' t3' t4' t6' t7' t14' t48p' t48n' t48c' t49' t50' w' ∧ m t0p' t0n' t0c' t3' t4' t6' t7' t14' t48p' t48n' t48c' t49' t50' w' < m t0p t0n t0c t3 t4 t6 t7 t14 t48p t48n t48c t49 t50 w)
def leaf_state.k3 (t0p : Option Addr) (t0n : Nat) (t0c : Nat) (t4 : Nat) (w : World) (R : Ending → World → Prop) : Prop :=
  ∃ (cs8 : Array Value), cs8.size = 24 ∧ CellsAt w (⟨t4, 0, none⟩ : Addr) cs8.toList ∧
  (chk (decide (cs8.size = 24)) (
      Wr w (⟨t4, 0, none⟩ : Addr) cs8.toList ∧ ∀ w16, w16 = w.setCells (⟨t4, 0, none⟩ : Addr).block (⟨t4, 0, none⟩ : Addr).off cs8.toList →
      (∃ (cs9 : Array Value), cs9.size = 24 ∧ CellsAt w16 (⟨t4, 0, none⟩ : Addr) cs9.toList ∧
        (R (.returned (Value.tuple #[(Value.agg cs9), (Value.bool (((t0n : Nat) : Int) == 0))])) w16))))
def leaf_state.b1 (t0p : Option Addr) (t0n : Nat) (t0c : Nat) (t3 : Nat) (t4 : Nat) (t14 : Int) (w : World) (R : Ending → World → Prop) (C1 : Option Addr → Nat → Nat → Nat → Nat → Int → World → Prop) : Prop :=
  cond (decide (t14 < 8)) (
    cond (decide (((t0n : Nat) : Int) < 2)) (
      ∃ (cs1 : Array Value), cs1.size = 24 ∧ CellsAt w (⟨t4, 0, none⟩ : Addr) cs1.toList ∧
      (chk (decide (cs1.size = 24)) (
          Wr w (⟨t4, 0, none⟩ : Addr) cs1.toList ∧ ∀ w3, w3 = w.setCells (⟨t4, 0, none⟩ : Addr).block (⟨t4, 0, none⟩ : Addr).off cs1.toList →
          (∃ (cs2 : Array Value), cs2.size = 24 ∧ CellsAt w3 (⟨t4, 0, none⟩ : Addr) cs2.toList ∧
            (R (.returned (Value.tuple #[(Value.agg cs2), (Value.bool false)])) w3))))) (
      chk (decide (0 < ((t0n : Nat) : Int))) (
        optP t0p fun d1 =>
        ∃ (x1 : Int), w.drew.cell? d1 = some (Value.int .u8 x1) ∧
        (chk (decide (1 < ((t0n : Nat) : Int))) (
            optP t0p fun d2 =>
            ∃ (x2 : Int), w.drew.cell? (d2.add 1) = some (Value.int .u8 x2) ∧
            (newP w.drew #[(Value.int .i64 0), (Value.int .i64 0)] 27 fun b3 w4 =>
              (Value.agg #[(Value.int .i64 (IntKind.i64.wrap x1)), (Value.int .i64 (IntKind.i64.wrap x2))]) = (Value.agg #[(Value.int .i64 (IntKind.i64.wrap x1)), (Value.int .i64 (IntKind.i64.wrap x2))]) ∧
              (w4.cell? (d2.add 1) = some (Value.int .u8 x2) ∧
                (w4.cell? d1 = some (Value.int .u8 x1) ∧
                  (Wr w4 (⟨b3, 0, none⟩ : Addr) [(Value.int .i64 (IntKind.i64.wrap x1)), (Value.int .i64 (IntKind.i64.wrap x2))] ∧ ∀ w5, w5 = w4.setCells (⟨b3, 0, none⟩ : Addr).block (⟨b3, 0, none⟩ : Addr).off [(Value.int .i64 (IntKind.i64.wrap x1)), (Value.int .i64 (IntKind.i64.wrap x2))] →
                    (chk (decide (2 ≤ ((t0n : Nat) : Int))) (
                        ∃ (x3 : Int), w5.cell? (⟨b3, 1, none⟩ : Addr) = some (Value.int .i64 x3) ∧
                        (cond (decide ((((t0n - 2) : Nat) : Int) < (IntKind.i64.wrap (2 * x3)))) (
                          ∃ (cs3 : Array Value), cs3.size = 24 ∧ CellsAt w5 (⟨t4, 0, none⟩ : Addr) cs3.toList ∧
                          (chk (decide (cs3.size = 24)) (
                          Wr w5 (⟨t4, 0, none⟩ : Addr) cs3.toList ∧ ∀ w6, w6 = w5.setCells (⟨t4, 0, none⟩ : Addr).block (⟨t4, 0, none⟩ : Addr).off cs3.toList →
                          (∃ (cs4 : Array Value), cs4.size = 24 ∧ CellsAt w6 (⟨t4, 0, none⟩ : Addr) cs4.toList ∧
                          (R (.returned (Value.tuple #[(Value.agg cs4), (Value.bool false)])) w6))))) (
                          ∃ (x4 : Int), w5.cell? (⟨b3, 1, none⟩ : Addr) = some (Value.int .i64 x4) ∧
                          (chk (decide (0 ≤ (IntKind.i64.wrap (2 * x4)))) (
                          chk (decide ((IntKind.i64.wrap (2 * x4)) ≤ (((t0c - 2) : Nat) : Int))) (
                          callP Try.prog 59 #[(Value.slice (slA (slA t0p t0c 2 1) (t0c - 2) 0 1) ((IntKind.i64.wrap (2 * x4)).toNat) (t0c - 2)), (Value.int .i64 2)] w5 (fun v1 w7 =>
                          dT v1 fun vs1 =>
                          optP (vs1[0]?) fun v2 =>
                          dS v2 fun p1 n1 c1 =>
                          optP (vs1[1]?) fun v3 =>
                          dI .i64 v3 fun x5 =>
                          leaf_state.l2 (slA t0p t0c 2 1) (t0n - 2) (t0c - 2) t3 t4 t14 b3 t14 p1 n1 c1 ((n1 : Nat) : Int) 0 w7 R C1) (fun ch w8 => R (.panicked ch) w8))))))))))))))))) (
    leaf_state.k3 t0p t0n t0c t4 w R)
def leaf_state.l1 (t0p : Option Addr) (t0n : Nat) (t0c : Nat) (t3 : Nat) (t4 : Nat) (t14 : Int) (w : World) (R : Ending → World → Prop) : Prop :=
  ∃ (I : Option Addr → Nat → Nat → Nat → Nat → Int → World → Prop) (m : Option Addr → Nat → Nat → Nat → Nat → Int → World → Nat), I t0p t0n t0c t3 t4 t14 w ∧
  ∀ (t0p : Option Addr) (t0n : Nat) (t0c : Nat) (t3 : Nat) (t4 : Nat) (t14 : Int) (w : World), I t0p t0n t0c t3 t4 t14 w →
  leaf_state.b1 t0p t0n t0c t3 t4 t14 w R (fun t0p' t0n' t0c' t3' t4' t14' w' => I t0p' t0n' t0c' t3' t4' t14' w' ∧ m t0p' t0n' t0c' t3' t4' t14' w' < m t0p t0n t0c t3 t4 t14 w)
def leaf_state.main (a0p : Option Addr) (a0n : Nat) (a0c : Nat) (a1_0 : Int) (a1_1 : Int) (w : World) (R : Ending → World → Prop) : Prop :=
  newP w #[(Value.int .i64 a1_0), (Value.int .i64 a1_1)] 34 fun b1 w1 =>
  newP w1 #[(Value.int .i64 0), (Value.int .i64 0), (Value.int .i64 0), (Value.int .i64 0), (Value.int .i64 0), (Value.int .i64 0), (Value.int .i64 0), (Value.int .i64 0), (Value.int .i64 0), (Value.int .i64 0), (Value.int .i64 0), (Value.int .i64 0), (Value.int .i64 0), (Value.int .i64 0), (Value.int .i64 0), (Value.int .i64 0), (Value.slice none 0 0), (Value.slice none 0 0), (Value.slice none 0 0), (Value.slice none 0 0), (Value.slice none 0 0), (Value.slice none 0 0), (Value.slice none 0 0), (Value.slice none 0 0)] 32 fun b2 w2 =>
  leaf_state.l1 a0p a0n a0c b1 b2 0 w2 R
abbrev leaf_state.C (a0p : Option Addr) (a0n : Nat) (a0c : Nat) (a1_0 : Int) (a1_1 : Int) (w : World) (R : Ending → World → Prop) : Prop := Calls Try.prog 36 #[(Value.slice a0p a0n a0c), (Value.agg #[(Value.int .i64 a1_0), (Value.int .i64 a1_1)])] w R
noncomputable def leaf_state.code : Code := (Try.f36.body).getD .skip
noncomputable def leaf_state.sk (R : Ending → World → Prop) : Sk := (.seq .leaf (.cut [(0, .slice), (4, .blk)] (fun (t0p : Option Addr) (t0n : Nat) (t0c : Nat) (t4 : Nat) (w : World) => leaf_state.k3 t0p t0n t0c t4 w R) (.seq .leaf (.block (.loop [(0, .slice), (3, .blk), (4, .blk), (14, .int .i64)] (fun (t0p : Option Addr) (t0n : Nat) (t0c : Nat) (t3 : Nat) (t4 : Nat) (t14 : Int) (w : World) => leaf_state.l1 t0p t0n t0c t3 t4 t14 w R) (fun (C1 : Option Addr → Nat → Nat → Nat → Nat → Int → World → Prop) => (.seq .leaf (.seq .leaf (.seq (.block (.seq .leaf (.seq .leaf (.seq .leaf (.seq .leaf (.seq .leaf (.seq .leaf (.cut [(0, .slice), (3, .blk), (4, .blk), (6, .int .i64), (7, .blk), (14, .int .i64)] (fun (t0p : Option Addr) (t0n : Nat) (t0c : Nat) (t3 : Nat) (t4 : Nat) (t6 : Int) (t7 : Nat) (t14 : Int) (w : World) => leaf_state.k2 t0p t0n t0c t3 t4 t6 t7 t14 w R C1) (.seq .leaf (.block (.loop [(0, .slice), (3, .blk), (4, .blk), (6, .int .i64), (7, .blk), (14, .int .i64), (48, .slice), (49, .int .i64), (50, .int .i64)] (fun (t0p : Option Addr) (t0n : Nat) (t0c : Nat) (t3 : Nat) (t4 : Nat) (t6 : Int) (t7 : Nat) (t14 : Int) (t48p : Option Addr) (t48n : Nat) (t48c : Nat) (t49 : Int) (t50 : Int) (w : World) => leaf_state.l2 t0p t0n t0c t3 t4 t6 t7 t14 t48p t48n t48c t49 t50 w R C1) (fun (C2 : Option Addr → Nat → Nat → Nat → Nat → Int → Nat → Int → Option Addr → Nat → Nat → Int → Int → World → Prop) => (.seq .leaf (.seq .leaf (.seq (.block (.seq .leaf (.seq .leaf (.cut [(0, .slice), (3, .blk), (4, .blk), (6, .int .i64), (7, .blk), (12, .cpx), (14, .int .i64), (48, .slice), (49, .int .i64), (50, .int .i64)] (fun (t0p : Option Addr) (t0n : Nat) (t0c : Nat) (t3 : Nat) (t4 : Nat) (t6 : Int) (t7 : Nat) (t12r : Nat) (t12m : Nat) (t14 : Int) (t48p : Option Addr) (t48n : Nat) (t48c : Nat) (t49 : Int) (t50 : Int) (w : World) => leaf_state.k1 t0p t0n t0c t3 t4 t6 t7 t12r t12m t14 t48p t48n t48c t49 t50 w R C1 C2) .leaf .leaf)))) .leaf))))))) .leaf)))))))) .leaf))))))) .leaf))
def leaf_state.owed (R : Ending → World → Prop) : Prop :=
  (∀ (t0p : Option Addr) (t0n : Nat) (t0c : Nat) (t3 : Nat) (t4 : Nat) (t14 : Int) (w : World), leaf_state.l1 t0p t0n t0c t3 t4 t14 w R → leaf_state.l1 t0p t0n t0c t3 t4 t14 w R) ∧ (∀ (C1 : Option Addr → Nat → Nat → Nat → Nat → Int → World → Prop), (∀ (t0p : Option Addr) (t0n : Nat) (t0c : Nat) (t3 : Nat) (t4 : Nat) (t6 : Int) (t7 : Nat) (t14 : Int) (t48p : Option Addr) (t48n : Nat) (t48c : Nat) (t49 : Int) (t50 : Int) (w : World), leaf_state.l2 t0p t0n t0c t3 t4 t6 t7 t14 t48p t48n t48c t49 t50 w R C1 → leaf_state.l2 t0p t0n t0c t3 t4 t6 t7 t14 t48p t48n t48c t49 t50 w R C1) ∧ (∀ (C2 : Option Addr → Nat → Nat → Nat → Nat → Int → Nat → Int → Option Addr → Nat → Nat → Int → Int → World → Prop), (∀ (t0p : Option Addr) (t0n : Nat) (t0c : Nat) (t3 : Nat) (t4 : Nat) (t6 : Int) (t7 : Nat) (t12r : Nat) (t12m : Nat) (t14 : Int) (t48p : Option Addr) (t48n : Nat) (t48c : Nat) (t49 : Int) (t50 : Int) (w : World), leaf_state.k1 t0p t0n t0c t3 t4 t6 t7 t12r t12m t14 t48p t48n t48c t49 t50 w R C1 C2 → leaf_state.k1 t0p t0n t0c t3 t4 t6 t7 t12r t12m t14 t48p t48n t48c t49 t50 w R C1 C2) ∧ True) ∧ (∀ (t0p : Option Addr) (t0n : Nat) (t0c : Nat) (t3 : Nat) (t4 : Nat) (t6 : Int) (t7 : Nat) (t14 : Int) (w : World), leaf_state.k2 t0p t0n t0c t3 t4 t6 t7 t14 w R C1 → leaf_state.k2 t0p t0n t0c t3 t4 t6 t7 t14 w R C1) ∧ True) ∧ (∀ (t0p : Option Addr) (t0n : Nat) (t0c : Nat) (t4 : Nat) (w : World), leaf_state.k3 t0p t0n t0c t4 w R → leaf_state.k3 t0p t0n t0c t4 w R) ∧ True
theorem leaf_state.pays (R : Ending → World → Prop) : leaf_state.owed R := ⟨(fun _ _ _ _ _ _ _ h => h), (fun _ => ⟨(fun _ _ _ _ _ _ _ _ _ _ _ _ _ _ h => h), (fun _ => ⟨(fun _ _ _ _ _ _ _ _ _ _ _ _ _ _ _ _ h => h), trivial⟩), (fun _ _ _ _ _ _ _ _ _ h => h), trivial⟩), (fun _ _ _ _ _ h => h), trivial⟩
set_option maxRecDepth 100000 in
theorem leaf_state.ok {a0p : Option Addr} {a0n : Nat} {a0c : Nat} {a1_0 : Int} {a1_1 : Int} {w : World} {R : Ending → World → Prop} (h : leaf_state.main a0p a0n a0c a1_0 a1_1 w R) : leaf_state.C a0p a0n a0c a1_0 a1_1 w R :=
  ev_ok cxok (c := cx) Try.func36 (code := leaf_state.code) (by kernel_rfl) [.cell 4 32, .tmp 5] (by kernel_rfl) 92 (by kernel_rfl) (leaf_state.sk R) (args := [(Value.slice a0p a0n a0c), (Value.agg #[(Value.int .i64 a1_0), (Value.int .i64 a1_1)])]) (Nat.le_of_ble_eq_true rfl) (by kernel_rfl) (o := leaf_state.owed R) (by kernel_rfl) (leaf_state.pays R) h

/-! ### slices.Equal[[]byte,byte]: function 38 -/
def slices_Equal_byte_byte.b1 (t0p : Option Addr) (t0n : Nat) (t0c : Nat) (t1p : Option Addr) (t1n : Nat) (t1c : Nat) (t12 : Int) (t13 : Int) (w : World) (R : Ending → World → Prop) (C1 : Option Addr → Nat → Nat → Option Addr → Nat → Nat → Int → Int → World → Prop) : Prop :=
  cond (decide (t13 < t12)) (
    chk (decide (0 ≤ t13)) (
      chk (decide (t13 < ((t0n : Nat) : Int))) (
        optP t0p fun d1 =>
        ∃ (x1 : Int), w.cell? (d1.add (t13.toNat * 1)) = some (Value.int .u8 x1) ∧
        (chk (decide (0 ≤ t13)) (
            chk (decide (t13 < ((t1n : Nat) : Int))) (
              optP t1p fun d2 =>
              ∃ (x2 : Int), w.cell? (d2.add (t13.toNat * 1)) = some (Value.int .u8 x2) ∧
              (∀ k1 : Nat,
                cond (x1 != x2) (
                  R (.returned (Value.bool false)) (w.drewN k1)) (
                  C1 t0p t0n t0c t1p t1n t1c t12 (IntKind.i64.wrap (t13 + 1)) (w.drewN k1))))))))) (
    R (.returned (Value.bool true)) w)
def slices_Equal_byte_byte.l1 (t0p : Option Addr) (t0n : Nat) (t0c : Nat) (t1p : Option Addr) (t1n : Nat) (t1c : Nat) (t12 : Int) (t13 : Int) (w : World) (R : Ending → World → Prop) : Prop :=
  ∃ (I : Option Addr → Nat → Nat → Option Addr → Nat → Nat → Int → Int → World → Prop) (m : Option Addr → Nat → Nat → Option Addr → Nat → Nat → Int → Int → World → Nat), I t0p t0n t0c t1p t1n t1c t12 t13 w ∧
  ∀ (t0p : Option Addr) (t0n : Nat) (t0c : Nat) (t1p : Option Addr) (t1n : Nat) (t1c : Nat) (t12 : Int) (t13 : Int) (w : World), I t0p t0n t0c t1p t1n t1c t12 t13 w →
  slices_Equal_byte_byte.b1 t0p t0n t0c t1p t1n t1c t12 t13 w R (fun t0p' t0n' t0c' t1p' t1n' t1c' t12' t13' w' => I t0p' t0n' t0c' t1p' t1n' t1c' t12' t13' w' ∧ m t0p' t0n' t0c' t1p' t1n' t1c' t12' t13' w' < m t0p t0n t0c t1p t1n t1c t12 t13 w)
def slices_Equal_byte_byte.main (a0p : Option Addr) (a0n : Nat) (a0c : Nat) (a1p : Option Addr) (a1n : Nat) (a1c : Nat) (w : World) (R : Ending → World → Prop) : Prop :=
  cond (((a0n : Nat) : Int) != ((a1n : Nat) : Int)) (
    R (.returned (Value.bool false)) w) (
    slices_Equal_byte_byte.l1 a0p a0n a0c a1p a1n a1c ((a0n : Nat) : Int) 0 w R)
abbrev slices_Equal_byte_byte.C (a0p : Option Addr) (a0n : Nat) (a0c : Nat) (a1p : Option Addr) (a1n : Nat) (a1c : Nat) (w : World) (R : Ending → World → Prop) : Prop := Calls Try.prog 38 #[(Value.slice a0p a0n a0c), (Value.slice a1p a1n a1c)] w R
noncomputable def slices_Equal_byte_byte.code : Code := (Try.f38.body).getD .skip
noncomputable def slices_Equal_byte_byte.sk (R : Ending → World → Prop) : Sk := (.seq .leaf (.seq .leaf (.seq (.seq .leaf (.block (.loop [(0, .slice), (1, .slice), (12, .int .i64), (13, .int .i64)] (fun (t0p : Option Addr) (t0n : Nat) (t0c : Nat) (t1p : Option Addr) (t1n : Nat) (t1c : Nat) (t12 : Int) (t13 : Int) (w : World) => slices_Equal_byte_byte.l1 t0p t0n t0c t1p t1n t1c t12 t13 w R) (fun (C1 : Option Addr → Nat → Nat → Option Addr → Nat → Nat → Int → Int → World → Prop) => .leaf)))) .leaf)))
def slices_Equal_byte_byte.owed (R : Ending → World → Prop) : Prop :=
  (∀ (t0p : Option Addr) (t0n : Nat) (t0c : Nat) (t1p : Option Addr) (t1n : Nat) (t1c : Nat) (t12 : Int) (t13 : Int) (w : World), slices_Equal_byte_byte.l1 t0p t0n t0c t1p t1n t1c t12 t13 w R → slices_Equal_byte_byte.l1 t0p t0n t0c t1p t1n t1c t12 t13 w R) ∧ (∀ (C1 : Option Addr → Nat → Nat → Option Addr → Nat → Nat → Int → Int → World → Prop), True) ∧ True
theorem slices_Equal_byte_byte.pays (R : Ending → World → Prop) : slices_Equal_byte_byte.owed R := ⟨(fun _ _ _ _ _ _ _ _ _ h => h), (fun _ => trivial), trivial⟩
set_option maxRecDepth 100000 in
theorem slices_Equal_byte_byte.ok {a0p : Option Addr} {a0n : Nat} {a0c : Nat} {a1p : Option Addr} {a1n : Nat} {a1c : Nat} {w : World} {R : Ending → World → Prop} (h : slices_Equal_byte_byte.main a0p a0n a0c a1p a1n a1c w R) : slices_Equal_byte_byte.C a0p a0n a0c a1p a1n a1c w R :=
  ev_ok cxok (c := cx) Try.func38 (code := slices_Equal_byte_byte.code) (by kernel_rfl) [.tmp 4] (by kernel_rfl) 26 (by kernel_rfl) (slices_Equal_byte_byte.sk R) (args := [(Value.slice a0p a0n a0c), (Value.slice a1p a1n a1c)]) (Nat.le_of_ble_eq_true rfl) (by kernel_rfl) (o := slices_Equal_byte_byte.owed R) (by kernel_rfl) (slices_Equal_byte_byte.pays R) h

/-! ### stopcock/stopcockref03.Close: function 39 -/
def stopcockref03_Close.k1 (t4p : Option Addr) (t4n : Nat) (t4c : Nat) (w : World) (R : Ending → World → Prop) : Prop :=
  callP Try.prog 45 #[(Value.slice t4p t4n t4c)] w (fun v1 w5 =>
    dI .u32 v1 fun x1 =>
    newP w5 #[(Value.int .u8 (IntKind.u8.wrap (Int.fdiv x1 (2 ^ (min 24 IntKind.u32.bits))))), (Value.int .u8 (IntKind.u8.wrap (Int.fdiv x1 (2 ^ (min 16 IntKind.u32.bits))))), (Value.int .u8 (IntKind.u8.wrap (Int.fdiv x1 (2 ^ (min 8 IntKind.u32.bits))))), (Value.int .u8 (IntKind.u8.wrap x1))] 5 fun b3 w7 =>
    appP w7 t4p t4n t4c 4 (CellsO w7 (some ⟨b3, 0, none⟩)) 5 1 1 #[(Value.int .u8 0)] fun p3 c3 w8 =>
    R (.returned (Value.tuple #[(Value.slice p3 (t4n + 4) c3), (Value.int .i64 0)])) w8) (fun ch w6 => R (.panicked ch) w6)
def stopcockref03_Close.b1 (t4p : Option Addr) (t4n : Nat) (t4c : Nat) (w : World) (R : Ending → World → Prop) (C1 : Option Addr → Nat → Nat → World → Prop) : Prop :=
  cond (decide (((t4n : Nat) : Int) < 60)) (
    newP w #[(Value.int .u8 0)] 5 fun b2 w3 =>
    appP w3 t4p t4n t4c 1 (CellsO w3 (some ⟨b2, 0, none⟩)) 5 1 1 #[(Value.int .u8 0)] fun p2 c2 w4 =>
    C1 p2 (t4n + 1) c2 w4) (
    stopcockref03_Close.k1 t4p t4n t4c w R)
def stopcockref03_Close.l1 (t4p : Option Addr) (t4n : Nat) (t4c : Nat) (w : World) (R : Ending → World → Prop) : Prop :=
  ∃ (I : Option Addr → Nat → Nat → World → Prop) (m : Option Addr → Nat → Nat → World → Nat), I t4p t4n t4c w ∧
  ∀ (t4p : Option Addr) (t4n : Nat) (t4c : Nat) (w : World), I t4p t4n t4c w →
  stopcockref03_Close.b1 t4p t4n t4c w R (fun t4p' t4n' t4c' w' => I t4p' t4n' t4c' w' ∧ m t4p' t4n' t4c' w' < m t4p t4n t4c w)
def stopcockref03_Close.main (a0p : Option Addr) (a0n : Nat) (a0c : Nat) (w : World) (R : Ending → World → Prop) : Prop :=
  cond (decide (((a0n : Nat) : Int) > 60)) (
    R (.returned (Value.tuple #[(Value.slice none 0 0), (Value.int .i64 6)])) w) (
    newP w #[] 5 fun b1 w1 =>
    appP w1 (some ⟨b1, 0, none⟩) 0 0 a0n (CellsO w1 a0p) 5 1 1 #[(Value.int .u8 0)] fun p1 c1 w2 =>
    stopcockref03_Close.l1 p1 (0 + a0n) c1 w2 R)
abbrev stopcockref03_Close.C (a0p : Option Addr) (a0n : Nat) (a0c : Nat) (w : World) (R : Ending → World → Prop) : Prop := Calls Try.prog 39 #[(Value.slice a0p a0n a0c)] w R
noncomputable def stopcockref03_Close.code : Code := (Try.f39.body).getD .skip
noncomputable def stopcockref03_Close.sk (R : Ending → World → Prop) : Sk := (.seq .leaf (.seq .leaf (.seq .leaf (.cut [(4, .slice)] (fun (t4p : Option Addr) (t4n : Nat) (t4c : Nat) (w : World) => stopcockref03_Close.k1 t4p t4n t4c w R) (.block (.loop [(4, .slice)] (fun (t4p : Option Addr) (t4n : Nat) (t4c : Nat) (w : World) => stopcockref03_Close.l1 t4p t4n t4c w R) (fun (C1 : Option Addr → Nat → Nat → World → Prop) => .leaf))) .leaf))))
def stopcockref03_Close.owed (R : Ending → World → Prop) : Prop :=
  (∀ (t4p : Option Addr) (t4n : Nat) (t4c : Nat) (w : World), stopcockref03_Close.l1 t4p t4n t4c w R → stopcockref03_Close.l1 t4p t4n t4c w R) ∧ (∀ (C1 : Option Addr → Nat → Nat → World → Prop), True) ∧ (∀ (t4p : Option Addr) (t4n : Nat) (t4c : Nat) (w : World), stopcockref03_Close.k1 t4p t4n t4c w R → stopcockref03_Close.k1 t4p t4n t4c w R) ∧ True
theorem stopcockref03_Close.pays (R : Ending → World → Prop) : stopcockref03_Close.owed R := ⟨(fun _ _ _ _ h => h), (fun _ => trivial), (fun _ _ _ _ h => h), trivial⟩
set_option maxRecDepth 100000 in
theorem stopcockref03_Close.ok {a0p : Option Addr} {a0n : Nat} {a0c : Nat} {w : World} {R : Ending → World → Prop} (h : stopcockref03_Close.main a0p a0n a0c w R) : stopcockref03_Close.C a0p a0n a0c w R :=
  ev_ok cxok (c := cx) Try.func39 (code := stopcockref03_Close.code) (by kernel_rfl) [.tmp 2, .tmp 3] (by kernel_rfl) 34 (by kernel_rfl) (stopcockref03_Close.sk R) (args := [(Value.slice a0p a0n a0c)]) (Nat.le_of_ble_eq_true rfl) (by kernel_rfl) (o := stopcockref03_Close.owed R) (by kernel_rfl) (stopcockref03_Close.pays R) h

/-! ### stopcock/stopcockref04.Get: function 40 -/
def stopcockref04_Get.b1 (t0p : Option Addr) (t0n : Nat) (t0c : Nat) (t1 : Int) (t2 : Int) (t8 : Int) (t9 : Int) (w : World) (R : Ending → World → Prop) (C1 : Option Addr → Nat → Nat → Int → Int → Int → Int → World → Prop) : Prop :=
  cond (decide (t9 < t2)) (
    chk (decide (0 ≤ (IntKind.i64.wrap (t1 + t9)))) (
      chk (decide ((IntKind.i64.wrap (t1 + t9)) < ((t0n : Nat) : Int))) (
        optP t0p fun d1 =>
        ∃ (x1 : Int), w.cell? (d1.add ((IntKind.i64.wrap (t1 + t9)).toNat * 1)) = some (Value.int .u8 x1) ∧
        (C1 t0p t0n t0c t1 t2 (IntKind.i64.wrap ((IntKind.i64.wrap (t8 * 256)) + (IntKind.i64.wrap x1))) (IntKind.i64.wrap (t9 + 1)) w)))) (
    R (.returned (Value.tuple #[(Value.int .i64 t8), (Value.int .i64 0)])) w)
def stopcockref04_Get.l1 (t0p : Option Addr) (t0n : Nat) (t0c : Nat) (t1 : Int) (t2 : Int) (t8 : Int) (t9 : Int) (w : World) (R : Ending → World → Prop) : Prop :=
  ∃ (I : Option Addr → Nat → Nat → Int → Int → Int → Int → World → Prop) (m : Option Addr → Nat → Nat → Int → Int → Int → Int → World → Nat), I t0p t0n t0c t1 t2 t8 t9 w ∧
  ∀ (t0p : Option Addr) (t0n : Nat) (t0c : Nat) (t1 : Int) (t2 : Int) (t8 : Int) (t9 : Int) (w : World), I t0p t0n t0c t1 t2 t8 t9 w →
  stopcockref04_Get.b1 t0p t0n t0c t1 t2 t8 t9 w R (fun t0p' t0n' t0c' t1' t2' t8' t9' w' => I t0p' t0n' t0c' t1' t2' t8' t9' w' ∧ m t0p' t0n' t0c' t1' t2' t8' t9' w' < m t0p t0n t0c t1 t2 t8 t9 w)
def stopcockref04_Get.main (a0p : Option Addr) (a0n : Nat) (a0c : Nat) (a1 : Int) (a2 : Int) (w : World) (R : Ending → World → Prop) : Prop :=
  cond (decide (a2 < 1)) (
    R (.returned (Value.tuple #[(Value.int .i64 0), (Value.int .i64 1)])) w) (
    cond (decide (a2 > 4)) (
      R (.returned (Value.tuple #[(Value.int .i64 0), (Value.int .i64 1)])) w) (
      cond (decide (a1 < 0)) (
        R (.returned (Value.tuple #[(Value.int .i64 0), (Value.int .i64 3)])) w) (
        cond (decide (a1 > ((a0n : Nat) : Int))) (
          R (.returned (Value.tuple #[(Value.int .i64 0), (Value.int .i64 3)])) w) (
          cond (decide ((IntKind.i64.wrap (((a0n : Nat) : Int) - a1)) < a2)) (
            R (.returned (Value.tuple #[(Value.int .i64 0), (Value.int .i64 3)])) w) (
            stopcockref04_Get.l1 a0p a0n a0c a1 a2 0 0 w R)))))
abbrev stopcockref04_Get.C (a0p : Option Addr) (a0n : Nat) (a0c : Nat) (a1 : Int) (a2 : Int) (w : World) (R : Ending → World → Prop) : Prop := Calls Try.prog 40 #[(Value.slice a0p a0n a0c), (Value.int .i64 a1), (Value.int .i64 a2)] w R
noncomputable def stopcockref04_Get.code : Code := (Try.f40.body).getD .skip
noncomputable def stopcockref04_Get.sk (R : Ending → World → Prop) : Sk := (.seq .leaf (.seq .leaf (.seq .leaf (.seq .leaf (.seq (.seq .leaf (.block (.loop [(0, .slice), (1, .int .i64), (2, .int .i64), (8, .int .i64), (9, .int .i64)] (fun (t0p : Option Addr) (t0n : Nat) (t0c : Nat) (t1 : Int) (t2 : Int) (t8 : Int) (t9 : Int) (w : World) => stopcockref04_Get.l1 t0p t0n t0c t1 t2 t8 t9 w R) (fun (C1 : Option Addr → Nat → Nat → Int → Int → Int → Int → World → Prop) => .leaf)))) .leaf)))))
def stopcockref04_Get.owed (R : Ending → World → Prop) : Prop :=
  (∀ (t0p : Option Addr) (t0n : Nat) (t0c : Nat) (t1 : Int) (t2 : Int) (t8 : Int) (t9 : Int) (w : World), stopcockref04_Get.l1 t0p t0n t0c t1 t2 t8 t9 w R → stopcockref04_Get.l1 t0p t0n t0c t1 t2 t8 t9 w R) ∧ (∀ (C1 : Option Addr → Nat → Nat → Int → Int → Int → Int → World → Prop), True) ∧ True
theorem stopcockref04_Get.pays (R : Ending → World → Prop) : stopcockref04_Get.owed R := ⟨(fun _ _ _ _ _ _ _ _ h => h), (fun _ => trivial), trivial⟩
set_option maxRecDepth 100000 in
theorem stopcockref04_Get.ok {a0p : Option Addr} {a0n : Nat} {a0c : Nat} {a1 : Int} {a2 : Int} {w : World} {R : Ending → World → Prop} (h : stopcockref04_Get.main a0p a0n a0c a1 a2 w R) : stopcockref04_Get.C a0p a0n a0c a1 a2 w R :=
  ev_ok cxok (c := cx) Try.func40 (code := stopcockref04_Get.code) (by kernel_rfl) [.tmp 6, .tmp 7] (by kernel_rfl) 48 (by kernel_rfl) (stopcockref04_Get.sk R) (args := [(Value.slice a0p a0n a0c), (Value.int .i64 a1), (Value.int .i64 a2)]) (Nat.le_of_ble_eq_true rfl) (by kernel_rfl) (o := stopcockref04_Get.owed R) (by kernel_rfl) (stopcockref04_Get.pays R) h

/-! ### stopcock/stopcockref01.Make: function 41 -/
def stopcockref01_Make.main (a0 : Int) (a1 : Int) (w : World) (R : Ending → World → Prop) : Prop :=
  R (.returned (Value.complex .f64 (FloatKind.f64.nearest a0) (FloatKind.f64.nearest a1))) w
abbrev stopcockref01_Make.C (a0 : Int) (a1 : Int) (w : World) (R : Ending → World → Prop) : Prop := Calls Try.prog 41 #[(Value.int .i64 a0), (Value.int .i64 a1)] w R
noncomputable def stopcockref01_Make.code : Code := (Try.f41.body).getD .skip
noncomputable def stopcockref01_Make.sk (R : Ending → World → Prop) : Sk := .leaf
def stopcockref01_Make.owed (R : Ending → World → Prop) : Prop :=
  True
theorem stopcockref01_Make.pays (R : Ending → World → Prop) : stopcockref01_Make.owed R := trivial
set_option maxRecDepth 100000 in
theorem stopcockref01_Make.ok {a0 : Int} {a1 : Int} {w : World} {R : Ending → World → Prop} (h : stopcockref01_Make.main a0 a1 w R) : stopcockref01_Make.C a0 a1 w R :=
  ev_ok cxok (c := cx) Try.func41 (code := stopcockref01_Make.code) (by kernel_rfl) [.tmp 4] (by kernel_rfl) 10 (by kernel_rfl) (stopcockref01_Make.sk R) (args := [(Value.int .i64 a0), (Value.int .i64 a1)]) (Nat.le_of_ble_eq_true rfl) (by kernel_rfl) (o := stopcockref01_Make.owed R) (by kernel_rfl) (stopcockref01_Make.pays R) h

/-! ### stopcock/stopcockref10.Fit: function 42 -/
def stopcockref10_Fit.main (a0 : Array Value) (a1_0 : Int) (a1_1 : Int) (w : World) (R : Ending → World → Prop) : Prop :=
  newP w a0 32 fun b1 w1 =>
  newP w1 #[(Value.int .i64 a1_0), (Value.int .i64 a1_1)] 34 fun b2 w2 =>
  ∃ (cs1 : Array Value), cs1.size = 24 ∧ CellsAt w2 (⟨b1, 0, none⟩ : Addr) cs1.toList ∧
  (∃ (cs2 : Array Value), cs2.size = 2 ∧ CellsAt w2 (⟨b2, 0, none⟩ : Addr) cs2.toList ∧
    (callP Try.prog 61 #[(Value.agg cs1), (Value.agg cs2)] w2 (fun v1 w3 =>
        dI .i64 v1 fun x1 =>
        cond (x1 == 0) (
          ∃ (cs3 : Array Value), cs3.size = 24 ∧ CellsAt w3.drew (⟨b1, 0, none⟩ : Addr) cs3.toList ∧
          (∃ (cs4 : Array Value), cs4.size = 2 ∧ CellsAt w3.drew (⟨b2, 0, none⟩ : Addr) cs4.toList ∧
            (callP Try.prog 62 #[(Value.agg cs3)] w3.drew (fun v2 w5 =>
                dS v2 fun p1 n1 c1 =>
                chk (decide (cs4.size = 2)) (
                  CellsAt w5 (⟨b2, 0, none⟩ : Addr) cs4.toList ∧
                  (callP Try.prog 63 #[(Value.agg cs4)] w5 (fun v3 w7 =>
                      dI .i64 v3 fun x2 =>
                      cond (decide (((n1 : Nat) : Int) > x2)) (
                        R (.returned (Value.int .i64 9)) w7) (
                        R (.returned (Value.int .i64 x1)) w7)) (fun ch w8 => R (.panicked ch) w8)))) (fun ch w6 => R (.panicked ch) w6)))) (
          R (.returned (Value.int .i64 x1)) w3.drew)) (fun ch w4 => R (.panicked ch) w4)))
abbrev stopcockref10_Fit.C (a0 : Array Value) (a1_0 : Int) (a1_1 : Int) (w : World) (R : Ending → World → Prop) : Prop := Calls Try.prog 42 #[(Value.agg a0), (Value.agg #[(Value.int .i64 a1_0), (Value.int .i64 a1_1)])] w R
noncomputable def stopcockref10_Fit.code : Code := (Try.f42.body).getD .skip
noncomputable def stopcockref10_Fit.sk (R : Ending → World → Prop) : Sk := .leaf
def stopcockref10_Fit.owed (R : Ending → World → Prop) : Prop :=
  True
theorem stopcockref10_Fit.pays (R : Ending → World → Prop) : stopcockref10_Fit.owed R := trivial
set_option maxRecDepth 100000 in
theorem stopcockref10_Fit.ok {a0 : Array Value} {a1_0 : Int} {a1_1 : Int} {w : World} {R : Ending → World → Prop} (h : stopcockref10_Fit.main a0 a1_0 a1_1 w R) : stopcockref10_Fit.C a0 a1_0 a1_1 w R :=
  ev_ok cxok (c := cx) Try.func42 (code := stopcockref10_Fit.code) (by kernel_rfl) [.tmp 4] (by kernel_rfl) 20 (by kernel_rfl) (stopcockref10_Fit.sk R) (args := [(Value.agg a0), (Value.agg #[(Value.int .i64 a1_0), (Value.int .i64 a1_1)])]) (Nat.le_of_ble_eq_true rfl) (by kernel_rfl) (o := stopcockref10_Fit.owed R) (by kernel_rfl) (stopcockref10_Fit.pays R) h

/-! ### stopcock/stopcockref13.put: function 43 -/
def stopcockref13_put.main (a0p : Option Addr) (a0n : Nat) (a0c : Nat) (a1 : Int) (a2 : Int) (w : World) (R : Ending → World → Prop) : Prop :=
  callP Try.prog 64 #[(Value.slice a0p a0n a0c), (Value.int .i64 a1), (Value.int .i64 a2)] w (fun v1 w1 =>
    dT v1 fun vs1 =>
    optP (vs1[0]?) fun v2 =>
    dS v2 fun p1 n1 c1 =>
    optP (vs1[1]?) fun v3 =>
    dI .i64 v3 fun x1 =>
    R (.returned (Value.slice p1 n1 c1)) w1) (fun ch w2 => R (.panicked ch) w2)
abbrev stopcockref13_put.C (a0p : Option Addr) (a0n : Nat) (a0c : Nat) (a1 : Int) (a2 : Int) (w : World) (R : Ending → World → Prop) : Prop := Calls Try.prog 43 #[(Value.slice a0p a0n a0c), (Value.int .i64 a1), (Value.int .i64 a2)] w R
noncomputable def stopcockref13_put.code : Code := (Try.f43.body).getD .skip
noncomputable def stopcockref13_put.sk (R : Ending → World → Prop) : Sk := .leaf
def stopcockref13_put.owed (R : Ending → World → Prop) : Prop :=
  True
theorem stopcockref13_put.pays (R : Ending → World → Prop) : stopcockref13_put.owed R := trivial
set_option maxRecDepth 100000 in
theorem stopcockref13_put.ok {a0p : Option Addr} {a0n : Nat} {a0c : Nat} {a1 : Int} {a2 : Int} {w : World} {R : Ending → World → Prop} (h : stopcockref13_put.main a0p a0n a0c a1 a2 w R) : stopcockref13_put.C a0p a0n a0c a1 a2 w R :=
  ev_ok cxok (c := cx) Try.func43 (code := stopcockref13_put.code) (by kernel_rfl) [.tmp 6] (by kernel_rfl) 17 (by kernel_rfl) (stopcockref13_put.sk R) (args := [(Value.slice a0p a0n a0c), (Value.int .i64 a1), (Value.int .i64 a2)]) (Nat.le_of_ble_eq_true rfl) (by kernel_rfl) (o := stopcockref13_put.owed R) (by kernel_rfl) (stopcockref13_put.pays R) h

end Go.Proofs.Ythgmebhkbbehmaa.G

/- Statements of functions, and that their calls do what they say. Printed by wip/tool/dec.py. Conditions: none. -/
import Derived.Test.YthopiffhkldnhaaG0
namespace Go.Proofs.Ythopiffhkldnhaa.G
open Go.Dec
set_option linter.unusedVariables false

/-! ### (*stopcock/stopcockref16.Strand).Frees: function 18 -/
def stopcockref16_Strand_Frees.b1 (t0 : Option Addr) (t3p : Option Addr) (t3n : Nat) (t3c : Nat) (t4 : Int) (w : World) (R : Ending → World → Prop) (C1 : Option Addr → Option Addr → Nat → Nat → Int → World → Prop) : Prop :=
  optP t0 fun d1 =>
  ∃ (p1 : Option Addr) (n1 : Nat) (c1 : Nat), w.cell? (d1.add 2) = some (Value.slice p1 n1 c1) ∧
  (cond (decide (t4 < ((n1 : Nat) : Int))) (
      optP t0 fun d2 =>
      ∃ (p2 : Option Addr) (n2 : Nat) (c2 : Nat), w.cell? (d2.add 2) = some (Value.slice p2 n2 c2) ∧
      (chk (decide (0 ≤ t4)) (
          chk (decide (t4 < ((n2 : Nat) : Int))) (
            optP p2 fun d3 =>
            ∃ (b2 : Bool), w.cell? (d3.add (t4.toNat * 1)) = some (Value.bool b2) ∧
            (cond b2 (
                newP w #[(Value.int .i64 t4)] 3 fun b3 w2 =>
                appP w2 t3p t3n t3c 1 (CellsO w2 (some ⟨b3, 0, none⟩)) 3 1 8 #[(Value.int .i64 0)] fun p3 c3 w3 =>
                C1 t0 p3 (t3n + 1) c3 (IntKind.i64.wrap (t4 + 1)) w3) (
                C1 t0 t3p t3n t3c (IntKind.i64.wrap (t4 + 1)) w)))))) (
      R (.returned (Value.slice t3p t3n t3c)) w))
def stopcockref16_Strand_Frees.l1 (t0 : Option Addr) (t3p : Option Addr) (t3n : Nat) (t3c : Nat) (t4 : Int) (w : World) (R : Ending → World → Prop) : Prop :=
  ∃ (I : Option Addr → Option Addr → Nat → Nat → Int → World → Prop) (m : Option Addr → Option Addr → Nat → Nat → Int → World → Nat), I t0 t3p t3n t3c t4 w ∧
  ∀ (t0 : Option Addr) (t3p : Option Addr) (t3n : Nat) (t3c : Nat) (t4 : Int) (w : World), I t0 t3p t3n t3c t4 w →
  stopcockref16_Strand_Frees.b1 t0 t3p t3n t3c t4 w R (fun t0' t3p' t3n' t3c' t4' w' => I t0' t3p' t3n' t3c' t4' w' ∧ m t0' t3p' t3n' t3c' t4' w' < m t0 t3p t3n t3c t4 w)
def stopcockref16_Strand_Frees.main (a0 : Option Addr) (w : World) (R : Ending → World → Prop) : Prop :=
  newP w #[] 3 fun b1 w1 =>
  stopcockref16_Strand_Frees.l1 a0 (some ⟨b1, 0, none⟩) 0 0 0 w1 R
abbrev stopcockref16_Strand_Frees.C (a0 : Option Addr) (w : World) (R : Ending → World → Prop) : Prop := Calls Try.prog 18 #[(Value.pointer a0)] w R
noncomputable def stopcockref16_Strand_Frees.code : Code := (Try.f18.body).getD .skip
noncomputable def stopcockref16_Strand_Frees.sk (R : Ending → World → Prop) : Sk := (.seq .leaf (.seq .leaf (.seq (.seq .leaf (.block (.loop [(0, .ptr), (3, .slice), (4, .int .i64)] (fun (t0 : Option Addr) (t3p : Option Addr) (t3n : Nat) (t3c : Nat) (t4 : Int) (w : World) => stopcockref16_Strand_Frees.l1 t0 t3p t3n t3c t4 w R) (fun (C1 : Option Addr → Option Addr → Nat → Nat → Int → World → Prop) => .leaf)))) .leaf)))
def stopcockref16_Strand_Frees.owed (R : Ending → World → Prop) : Prop :=
  (∀ (t0 : Option Addr) (t3p : Option Addr) (t3n : Nat) (t3c : Nat) (t4 : Int) (w : World), stopcockref16_Strand_Frees.l1 t0 t3p t3n t3c t4 w R → stopcockref16_Strand_Frees.l1 t0 t3p t3n t3c t4 w R) ∧ (∀ (C1 : Option Addr → Option Addr → Nat → Nat → Int → World → Prop), True) ∧ True
theorem stopcockref16_Strand_Frees.pays (R : Ending → World → Prop) : stopcockref16_Strand_Frees.owed R := ⟨(fun _ _ _ _ _ _ h => h), (fun _ => trivial), trivial⟩
set_option maxRecDepth 100000 in
theorem stopcockref16_Strand_Frees.ok {a0 : Option Addr} {w : World} {R : Ending → World → Prop} (h : stopcockref16_Strand_Frees.main a0 w R) : stopcockref16_Strand_Frees.C a0 w R :=
  ev_ok cxok (c := cx) Try.func18 (code := stopcockref16_Strand_Frees.code) (by kernel_rfl) [.tmp 2] (by kernel_rfl) 27 (by kernel_rfl) (stopcockref16_Strand_Frees.sk R) (args := [(Value.pointer a0)]) (Nat.le_of_ble_eq_true rfl) (by kernel_rfl) (o := stopcockref16_Strand_Frees.owed R) (by kernel_rfl) (stopcockref16_Strand_Frees.pays R) h

/-! ### stopcock/stopcockref01.Make: function 20 -/
def stopcockref01_Make.main (a0 : Int) (a1 : Int) (w : World) (R : Ending → World → Prop) : Prop :=
  R (.returned (Value.complex .f64 (FloatKind.f64.nearest a0) (FloatKind.f64.nearest a1))) w
abbrev stopcockref01_Make.C (a0 : Int) (a1 : Int) (w : World) (R : Ending → World → Prop) : Prop := Calls Try.prog 20 #[(Value.int .i64 a0), (Value.int .i64 a1)] w R
noncomputable def stopcockref01_Make.code : Code := (Try.f20.body).getD .skip
noncomputable def stopcockref01_Make.sk (R : Ending → World → Prop) : Sk := .leaf
def stopcockref01_Make.owed (R : Ending → World → Prop) : Prop :=
  True
theorem stopcockref01_Make.pays (R : Ending → World → Prop) : stopcockref01_Make.owed R := trivial
set_option maxRecDepth 100000 in
theorem stopcockref01_Make.ok {a0 : Int} {a1 : Int} {w : World} {R : Ending → World → Prop} (h : stopcockref01_Make.main a0 a1 w R) : stopcockref01_Make.C a0 a1 w R :=
  ev_ok cxok (c := cx) Try.func20 (code := stopcockref01_Make.code) (by kernel_rfl) [.tmp 4] (by kernel_rfl) 10 (by kernel_rfl) (stopcockref01_Make.sk R) (args := [(Value.int .i64 a0), (Value.int .i64 a1)]) (Nat.le_of_ble_eq_true rfl) (by kernel_rfl) (o := stopcockref01_Make.owed R) (by kernel_rfl) (stopcockref01_Make.pays R) h

/-! ### stopcock/plat.Check: function 21 -/
def plat_Check.main (a0_0 : Int) (a0_1 : Int) (w : World) (R : Ending → World → Prop) : Prop :=
  newP w #[(Value.int .i64 a0_0), (Value.int .i64 a0_1)] 23 fun b1 w1 =>
  ∃ (x1 : Int), w1.cell? (⟨b1, 0, none⟩ : Addr) = some (Value.int .i64 x1) ∧
  (cond (decide (x1 < 6)) (
      R (.returned (Value.int .i64 1)) w1) (
      ∃ (x2 : Int), w1.cell? (⟨b1, 0, none⟩ : Addr) = some (Value.int .i64 x2) ∧
      (cond (decide (x2 > 24)) (
          R (.returned (Value.int .i64 1)) w1) (
          ∃ (x3 : Int), w1.cell? (⟨b1, 1, none⟩ : Addr) = some (Value.int .i64 x3) ∧
          (cond (decide (x3 < 2)) (
              R (.returned (Value.int .i64 1)) w1) (
              ∃ (x4 : Int), w1.cell? (⟨b1, 1, none⟩ : Addr) = some (Value.int .i64 x4) ∧
              (cond (decide (x4 > 16)) (
                  R (.returned (Value.int .i64 1)) w1) (
                  R (.returned (Value.int .i64 0)) w1))))))))
abbrev plat_Check.C (a0_0 : Int) (a0_1 : Int) (w : World) (R : Ending → World → Prop) : Prop := Calls Try.prog 21 #[(Value.agg #[(Value.int .i64 a0_0), (Value.int .i64 a0_1)])] w R
noncomputable def plat_Check.code : Code := (Try.f21.body).getD .skip
noncomputable def plat_Check.sk (R : Ending → World → Prop) : Sk := .leaf
def plat_Check.owed (R : Ending → World → Prop) : Prop :=
  True
theorem plat_Check.pays (R : Ending → World → Prop) : plat_Check.owed R := trivial
set_option maxRecDepth 100000 in
theorem plat_Check.ok {a0_0 : Int} {a0_1 : Int} {w : World} {R : Ending → World → Prop} (h : plat_Check.main a0_0 a0_1 w R) : plat_Check.C a0_0 a0_1 w R :=
  ev_ok cxok (c := cx) Try.func21 (code := plat_Check.code) (by kernel_rfl) [.tmp 2] (by kernel_rfl) 21 (by kernel_rfl) (plat_Check.sk R) (args := [(Value.agg #[(Value.int .i64 a0_0), (Value.int .i64 a0_1)])]) (Nat.le_of_ble_eq_true rfl) (by kernel_rfl) (o := plat_Check.owed R) (by kernel_rfl) (plat_Check.pays R) h

/-! ### stopcock/stopcockref06.May: function 22 -/
def stopcockref06_May.main (a0_0 : Int) (a0_1 : Int) (w : World) (R : Ending → World → Prop) : Prop :=
  newP w #[(Value.int .i64 a0_0), (Value.int .i64 a0_1)] 23 fun b1 w1 =>
  ∃ (x1 : Int), w1.cell? (⟨b1, 0, none⟩ : Addr) = some (Value.int .i64 x1) ∧
  (cond (decide (x1 ≥ 6)) (
      ∃ (x2 : Int), w1.cell? (⟨b1, 0, none⟩ : Addr) = some (Value.int .i64 x2) ∧
      (cond (decide (x2 ≤ 24)) (
          ∃ (x3 : Int), w1.cell? (⟨b1, 1, none⟩ : Addr) = some (Value.int .i64 x3) ∧
          (cond (decide (x3 ≥ 2)) (
              ∃ (x4 : Int), w1.cell? (⟨b1, 1, none⟩ : Addr) = some (Value.int .i64 x4) ∧
              (R (.returned (Value.bool (decide (x4 ≤ 16)))) w1)) (
              R (.returned (Value.bool false)) w1))) (
          R (.returned (Value.bool false)) w1))) (
      R (.returned (Value.bool false)) w1))
abbrev stopcockref06_May.C (a0_0 : Int) (a0_1 : Int) (w : World) (R : Ending → World → Prop) : Prop := Calls Try.prog 22 #[(Value.agg #[(Value.int .i64 a0_0), (Value.int .i64 a0_1)])] w R
noncomputable def stopcockref06_May.code : Code := (Try.f22.body).getD .skip
noncomputable def stopcockref06_May.sk (R : Ending → World → Prop) : Sk := .leaf
def stopcockref06_May.owed (R : Ending → World → Prop) : Prop :=
  True
theorem stopcockref06_May.pays (R : Ending → World → Prop) : stopcockref06_May.owed R := trivial
set_option maxRecDepth 100000 in
theorem stopcockref06_May.ok {a0_0 : Int} {a0_1 : Int} {w : World} {R : Ending → World → Prop} (h : stopcockref06_May.main a0_0 a0_1 w R) : stopcockref06_May.C a0_0 a0_1 w R :=
  ev_ok cxok (c := cx) Try.func22 (code := stopcockref06_May.code) (by kernel_rfl) [.tmp 2] (by kernel_rfl) 21 (by kernel_rfl) (stopcockref06_May.sk R) (args := [(Value.agg #[(Value.int .i64 a0_0), (Value.int .i64 a0_1)])]) (Nat.le_of_ble_eq_true rfl) (by kernel_rfl) (o := stopcockref06_May.owed R) (by kernel_rfl) (stopcockref06_May.pays R) h

/-! ### (*stopcock/strand.Strand).full: function 23 -/
def strand_Strand_full.main (a0 : Option Addr) (w : World) (R : Ending → World → Prop) : Prop :=
  optP a0 fun d1 =>
  ∃ (x1 : Int), w.cell? (d1.add 3) = some (Value.int .i64 x1) ∧
  (cond (decide (x1 < 0)) (
      ∀ k1 : Nat,
      R (.returned (Value.bool true)) (w.drewN k1)) (
      optP a0 fun d2 =>
      ∃ (x2 : Int), w.cell? (d2.add 4) = some (Value.int .i64 x2) ∧
      (optP a0 fun d3 =>
        ∃ (x3 : Int), w.cell? (d3.add 1) = some (Value.int .i64 x3) ∧
        (∀ k1 : Nat,
          R (.returned (Value.bool (x2 == x3))) (w.drewN k1)))))
abbrev strand_Strand_full.C (a0 : Option Addr) (w : World) (R : Ending → World → Prop) : Prop := Calls Try.prog 23 #[(Value.pointer a0)] w R
noncomputable def strand_Strand_full.code : Code := (Try.f23.body).getD .skip
noncomputable def strand_Strand_full.sk (R : Ending → World → Prop) : Sk := .leaf
def strand_Strand_full.owed (R : Ending → World → Prop) : Prop :=
  True
theorem strand_Strand_full.pays (R : Ending → World → Prop) : strand_Strand_full.owed R := trivial
set_option maxRecDepth 100000 in
theorem strand_Strand_full.ok {a0 : Option Addr} {w : World} {R : Ending → World → Prop} (h : strand_Strand_full.main a0 w R) : strand_Strand_full.C a0 w R :=
  ev_ok cxok (c := cx) Try.func23 (code := strand_Strand_full.code) (by kernel_rfl) [.tmp 2] (by kernel_rfl) 20 (by kernel_rfl) (strand_Strand_full.sk R) (args := [(Value.pointer a0)]) (Nat.le_of_ble_eq_true rfl) (by kernel_rfl) (o := strand_Strand_full.owed R) (by kernel_rfl) (strand_Strand_full.pays R) h

/-! ### slices.Clone[[]int,int]: function 24 -/
def slices_Clone_int_int.main (a0p : Option Addr) (a0n : Nat) (a0c : Nat) (w : World) (R : Ending → World → Prop) : Prop :=
  cond (Option.isNone a0p) (
    R (.returned (Value.slice none 0 0)) w) (
    newP w #[] 3 fun b1 w1 =>
    appP w1 (some ⟨b1, 0, none⟩) 0 0 a0n (CellsO w1 a0p) 3 1 8 #[(Value.int .i64 0)] fun p1 c1 w2 =>
    R (.returned (Value.slice p1 (0 + a0n) c1)) w2)
abbrev slices_Clone_int_int.C (a0p : Option Addr) (a0n : Nat) (a0c : Nat) (w : World) (R : Ending → World → Prop) : Prop := Calls Try.prog 24 #[(Value.slice a0p a0n a0c)] w R
noncomputable def slices_Clone_int_int.code : Code := (Try.f24.body).getD .skip
noncomputable def slices_Clone_int_int.sk (R : Ending → World → Prop) : Sk := .leaf
def slices_Clone_int_int.owed (R : Ending → World → Prop) : Prop :=
  True
theorem slices_Clone_int_int.pays (R : Ending → World → Prop) : slices_Clone_int_int.owed R := trivial
set_option maxRecDepth 100000 in
theorem slices_Clone_int_int.ok {a0p : Option Addr} {a0n : Nat} {a0c : Nat} {w : World} {R : Ending → World → Prop} (h : slices_Clone_int_int.main a0p a0n a0c w R) : slices_Clone_int_int.C a0p a0n a0c w R :=
  ev_ok cxok (c := cx) Try.func24 (code := slices_Clone_int_int.code) (by kernel_rfl) [.tmp 2] (by kernel_rfl) 8 (by kernel_rfl) (slices_Clone_int_int.sk R) (args := [(Value.slice a0p a0n a0c)]) (Nat.le_of_ble_eq_true rfl) (by kernel_rfl) (o := slices_Clone_int_int.owed R) (by kernel_rfl) (slices_Clone_int_int.pays R) h

/-! ### stopcock/axis.Place: function 25 -/
def axis_Place.main (a0 : Int) (a1 : Int) (w : World) (R : Ending → World → Prop) : Prop :=
  callP Try.prog 30 #[(Value.int .i64 a1)] w (fun v1 w1 =>
    dB v1 fun b1 =>
    cond (!b1) (
      R (.returned (Value.tuple #[(Value.complex .f64 0 0), (Value.int .i64 1)])) w1) (
      cond (decide (a0 < 0)) (
        R (.returned (Value.tuple #[(Value.complex .f64 0 0), (Value.int .i64 5)])) w1) (
        cond (decide (a0 ≥ (IntKind.i64.wrap (24 * a1)))) (
          R (.returned (Value.tuple #[(Value.complex .f64 0 0), (Value.int .i64 5)])) w1) (
          chk (decide (a1 ≠ 0)) (
            chk (decide (a1 ≠ 0)) (
              ∀ k1 : Nat,
              R (.returned (Value.tuple #[(Value.complex .f64 (FloatKind.f64.nearest (IntKind.i64.wrap (Int.tdiv a0 a1))) (FloatKind.f64.nearest (Int.tmod a0 a1))), (Value.int .i64 0)])) (w1.drewN k1))))))) (fun ch w2 => R (.panicked ch) w2)
abbrev axis_Place.C (a0 : Int) (a1 : Int) (w : World) (R : Ending → World → Prop) : Prop := Calls Try.prog 25 #[(Value.int .i64 a0), (Value.int .i64 a1)] w R
noncomputable def axis_Place.code : Code := (Try.f25.body).getD .skip
noncomputable def axis_Place.sk (R : Ending → World → Prop) : Sk := .leaf
def axis_Place.owed (R : Ending → World → Prop) : Prop :=
  True
theorem axis_Place.pays (R : Ending → World → Prop) : axis_Place.owed R := trivial
set_option maxRecDepth 100000 in
theorem axis_Place.ok {a0 : Int} {a1 : Int} {w : World} {R : Ending → World → Prop} (h : axis_Place.main a0 a1 w R) : axis_Place.C a0 a1 w R :=
  ev_ok cxok (c := cx) Try.func25 (code := axis_Place.code) (by kernel_rfl) [.tmp 4, .tmp 5] (by kernel_rfl) 28 (by kernel_rfl) (axis_Place.sk R) (args := [(Value.int .i64 a0), (Value.int .i64 a1)]) (Nat.le_of_ble_eq_true rfl) (by kernel_rfl) (o := axis_Place.owed R) (by kernel_rfl) (axis_Place.pays R) h

/-! ### slices.Contains[[]int,int]: function 26 -/
def slices_Contains_int_int.main (a0p : Option Addr) (a0n : Nat) (a0c : Nat) (a1 : Int) (w : World) (R : Ending → World → Prop) : Prop :=
  callP Try.prog 31 #[(Value.slice a0p a0n a0c), (Value.int .i64 a1)] w (fun v1 w1 =>
    dI .i64 v1 fun x1 =>
    R (.returned (Value.bool (decide (x1 ≥ 0)))) w1) (fun ch w2 => R (.panicked ch) w2)
abbrev slices_Contains_int_int.C (a0p : Option Addr) (a0n : Nat) (a0c : Nat) (a1 : Int) (w : World) (R : Ending → World → Prop) : Prop := Calls Try.prog 26 #[(Value.slice a0p a0n a0c), (Value.int .i64 a1)] w R
noncomputable def slices_Contains_int_int.code : Code := (Try.f26.body).getD .skip
noncomputable def slices_Contains_int_int.sk (R : Ending → World → Prop) : Sk := .leaf
def slices_Contains_int_int.owed (R : Ending → World → Prop) : Prop :=
  True
theorem slices_Contains_int_int.pays (R : Ending → World → Prop) : slices_Contains_int_int.owed R := trivial
set_option maxRecDepth 100000 in
theorem slices_Contains_int_int.ok {a0p : Option Addr} {a0n : Nat} {a0c : Nat} {a1 : Int} {w : World} {R : Ending → World → Prop} (h : slices_Contains_int_int.main a0p a0n a0c a1 w R) : slices_Contains_int_int.C a0p a0n a0c a1 w R :=
  ev_ok cxok (c := cx) Try.func26 (code := slices_Contains_int_int.code) (by kernel_rfl) [.tmp 4] (by kernel_rfl) 9 (by kernel_rfl) (slices_Contains_int_int.sk R) (args := [(Value.slice a0p a0n a0c), (Value.int .i64 a1)]) (Nat.le_of_ble_eq_true rfl) (by kernel_rfl) (o := slices_Contains_int_int.owed R) (by kernel_rfl) (slices_Contains_int_int.pays R) h

/-! ### slices.BinarySearch[[]int,int]: function 27 -/
def slices_BinarySearch_int_int.k1 (t0p : Option Addr) (t0n : Nat) (t0c : Nat) (t1 : Int) (t6 : Int) (t7 : Int) (w : World) (R : Ending → World → Prop) : Prop :=
  cond (decide (t7 < t6)) (
    chk (decide (0 ≤ t7)) (
      chk (decide (t7 < ((t0n : Nat) : Int))) (
        optP t0p fun d2 =>
        ∃ (x2 : Int), w.cell? (d2.add (t7.toNat * 1)) = some (Value.int .i64 x2) ∧
        (cond (x2 == t1) (
            R (.returned (Value.tuple #[(Value.int .i64 t7), (Value.bool true)])) w) (
            chk (decide (0 ≤ t7)) (
              chk (decide (t7 < ((t0n : Nat) : Int))) (
                optP t0p fun d3 =>
                ∃ (x3 : Int), w.cell? (d3.add (t7.toNat * 1)) = some (Value.int .i64 x3) ∧
                (callP Try.prog 33 #[(Value.int .i64 x3)] w (fun v2 w3 =>
                    dB v2 fun b2 =>
                    cond b2 (
                      callP Try.prog 33 #[(Value.int .i64 t1)] w3 (fun v3 w5 =>
                        dB v3 fun b3 =>
                        R (.returned (Value.tuple #[(Value.int .i64 t7), (Value.bool b3)])) w5) (fun ch w6 => R (.panicked ch) w6)) (
                      R (.returned (Value.tuple #[(Value.int .i64 t7), (Value.bool false)])) w3)) (fun ch w4 => R (.panicked ch) w4))))))))) (
    R (.returned (Value.tuple #[(Value.int .i64 t7), (Value.bool false)])) w)
def slices_BinarySearch_int_int.b1 (t0p : Option Addr) (t0n : Nat) (t0c : Nat) (t1 : Int) (t6 : Int) (t7 : Int) (t8 : Int) (w : World) (R : Ending → World → Prop) (C1 : Option Addr → Nat → Nat → Int → Int → Int → Int → World → Prop) : Prop :=
  cond (decide (t7 < t8)) (
    chk (decide (0 ≤ (IntKind.i64.wrap (Int.fdiv (IntKind.u64.wrap (IntKind.i64.wrap (t7 + t8))) (2 ^ (min 1 IntKind.u64.bits)))))) (
      chk (decide ((IntKind.i64.wrap (Int.fdiv (IntKind.u64.wrap (IntKind.i64.wrap (t7 + t8))) (2 ^ (min 1 IntKind.u64.bits)))) < ((t0n : Nat) : Int))) (
        optP t0p fun d1 =>
        ∃ (x1 : Int), w.cell? (d1.add ((IntKind.i64.wrap (Int.fdiv (IntKind.u64.wrap (IntKind.i64.wrap (t7 + t8))) (2 ^ (min 1 IntKind.u64.bits)))).toNat * 1)) = some (Value.int .i64 x1) ∧
        (callP Try.prog 32 #[(Value.int .i64 x1), (Value.int .i64 t1)] w (fun v1 w1 =>
            dB v1 fun b1 =>
            cond b1 (
              C1 t0p t0n t0c t1 t6 (IntKind.i64.wrap ((IntKind.i64.wrap (Int.fdiv (IntKind.u64.wrap (IntKind.i64.wrap (t7 + t8))) (2 ^ (min 1 IntKind.u64.bits)))) + 1)) t8 w1) (
              C1 t0p t0n t0c t1 t6 t7 (IntKind.i64.wrap (Int.fdiv (IntKind.u64.wrap (IntKind.i64.wrap (t7 + t8))) (2 ^ (min 1 IntKind.u64.bits)))) w1)) (fun ch w2 => R (.panicked ch) w2))))) (
    slices_BinarySearch_int_int.k1 t0p t0n t0c t1 t6 t7 w R)
def slices_BinarySearch_int_int.l1 (t0p : Option Addr) (t0n : Nat) (t0c : Nat) (t1 : Int) (t6 : Int) (t7 : Int) (t8 : Int) (w : World) (R : Ending → World → Prop) : Prop :=
  ∃ (I : Option Addr → Nat → Nat → Int → Int → Int → Int → World → Prop) (m : Option Addr → Nat → Nat → Int → Int → Int → Int → World → Nat), I t0p t0n t0c t1 t6 t7 t8 w ∧
  ∀ (t0p : Option Addr) (t0n : Nat) (t0c : Nat) (t1 : Int) (t6 : Int) (t7 : Int) (t8 : Int) (w : World), I t0p t0n t0c t1 t6 t7 t8 w →
  slices_BinarySearch_int_int.b1 t0p t0n t0c t1 t6 t7 t8 w R (fun t0p' t0n' t0c' t1' t6' t7' t8' w' => I t0p' t0n' t0c' t1' t6' t7' t8' w' ∧ m t0p' t0n' t0c' t1' t6' t7' t8' w' < m t0p t0n t0c t1 t6 t7 t8 w)
def slices_BinarySearch_int_int.main (a0p : Option Addr) (a0n : Nat) (a0c : Nat) (a1 : Int) (w : World) (R : Ending → World → Prop) : Prop :=
  slices_BinarySearch_int_int.l1 a0p a0n a0c a1 ((a0n : Nat) : Int) 0 ((a0n : Nat) : Int) w R
abbrev slices_BinarySearch_int_int.C (a0p : Option Addr) (a0n : Nat) (a0c : Nat) (a1 : Int) (w : World) (R : Ending → World → Prop) : Prop := Calls Try.prog 27 #[(Value.slice a0p a0n a0c), (Value.int .i64 a1)] w R
noncomputable def slices_BinarySearch_int_int.code : Code := (Try.f27.body).getD .skip
noncomputable def slices_BinarySearch_int_int.sk (R : Ending → World → Prop) : Sk := (.seq .leaf (.seq .leaf (.seq .leaf (.cut [(0, .slice), (1, .int .i64), (6, .int .i64), (7, .int .i64)] (fun (t0p : Option Addr) (t0n : Nat) (t0c : Nat) (t1 : Int) (t6 : Int) (t7 : Int) (w : World) => slices_BinarySearch_int_int.k1 t0p t0n t0c t1 t6 t7 w R) (.block (.loop [(0, .slice), (1, .int .i64), (6, .int .i64), (7, .int .i64), (8, .int .i64)] (fun (t0p : Option Addr) (t0n : Nat) (t0c : Nat) (t1 : Int) (t6 : Int) (t7 : Int) (t8 : Int) (w : World) => slices_BinarySearch_int_int.l1 t0p t0n t0c t1 t6 t7 t8 w R) (fun (C1 : Option Addr → Nat → Nat → Int → Int → Int → Int → World → Prop) => .leaf))) .leaf))))
def slices_BinarySearch_int_int.owed (R : Ending → World → Prop) : Prop :=
  (∀ (t0p : Option Addr) (t0n : Nat) (t0c : Nat) (t1 : Int) (t6 : Int) (t7 : Int) (t8 : Int) (w : World), slices_BinarySearch_int_int.l1 t0p t0n t0c t1 t6 t7 t8 w R → slices_BinarySearch_int_int.l1 t0p t0n t0c t1 t6 t7 t8 w R) ∧ (∀ (C1 : Option Addr → Nat → Nat → Int → Int → Int → Int → World → Prop), True) ∧ (∀ (t0p : Option Addr) (t0n : Nat) (t0c : Nat) (t1 : Int) (t6 : Int) (t7 : Int) (w : World), slices_BinarySearch_int_int.k1 t0p t0n t0c t1 t6 t7 w R → slices_BinarySearch_int_int.k1 t0p t0n t0c t1 t6 t7 w R) ∧ True
theorem slices_BinarySearch_int_int.pays (R : Ending → World → Prop) : slices_BinarySearch_int_int.owed R := ⟨(fun _ _ _ _ _ _ _ _ h => h), (fun _ => trivial), (fun _ _ _ _ _ _ _ h => h), trivial⟩
set_option maxRecDepth 100000 in
theorem slices_BinarySearch_int_int.ok {a0p : Option Addr} {a0n : Nat} {a0c : Nat} {a1 : Int} {w : World} {R : Ending → World → Prop} (h : slices_BinarySearch_int_int.main a0p a0n a0c a1 w R) : slices_BinarySearch_int_int.C a0p a0n a0c a1 w R :=
  ev_ok cxok (c := cx) Try.func27 (code := slices_BinarySearch_int_int.code) (by kernel_rfl) [.tmp 4, .tmp 5] (by kernel_rfl) 54 (by kernel_rfl) (slices_BinarySearch_int_int.sk R) (args := [(Value.slice a0p a0n a0c), (Value.int .i64 a1)]) (Nat.le_of_ble_eq_true rfl) (by kernel_rfl) (o := slices_BinarySearch_int_int.owed R) (by kernel_rfl) (slices_BinarySearch_int_int.pays R) h

/-! ### slices.Insert[[]int,int]: function 28 -/
def slices_Insert_int_int.main (a0p : Option Addr) (a0n : Nat) (a0c : Nat) (a1 : Int) (a2p : Option Addr) (a2n : Nat) (a2c : Nat) (w : World) (R : Ending → World → Prop) : Prop :=
  chk (decide (0 ≤ a1)) (
    chk (decide (a1 ≤ ((a0n : Nat) : Int))) (
      cond (((a2n : Nat) : Int) == 0) (
        R (.returned (Value.slice a0p a0n a0c)) w) (
        cond (a1 == ((a0n : Nat) : Int)) (
          appP w a0p a0n a0c a2n (CellsO w a2p) 3 1 8 #[(Value.int .i64 0)] fun p1 c1 w1 =>
          R (.returned (Value.slice p1 (a0n + a2n) c1)) w1) (
          cond (decide ((IntKind.i64.wrap (((a0n : Nat) : Int) + ((a2n : Nat) : Int))) > ((a0c : Nat) : Int))) (
            chk (decide (0 ≤ a1)) (
              chk (decide (a1 ≤ ((a0c : Nat) : Int))) (
                chk (decide (0 ≤ (IntKind.i64.wrap ((IntKind.i64.wrap (((a0n : Nat) : Int) + ((a2n : Nat) : Int))) - a1)))) (
                  appzP w (slA a0p a0c 0 1) a1.toNat a0c ((IntKind.i64.wrap ((IntKind.i64.wrap (((a0n : Nat) : Int) + ((a2n : Nat) : Int))) - a1)).toNat) 3 1 8 #[(Value.int .i64 0)] fun p2 c2 w2 =>
                  chk (decide (0 ≤ a1)) (
                    chk (decide (a1 ≤ (((a1.toNat + (IntKind.i64.wrap ((IntKind.i64.wrap (((a0n : Nat) : Int) + ((a2n : Nat) : Int))) - a1)).toNat) : Nat) : Int))) (
                      copyP w2 (slA p2 c2 a1.toNat 1) ((a1.toNat + (IntKind.i64.wrap ((IntKind.i64.wrap (((a0n : Nat) : Int) + ((a2n : Nat) : Int))) - a1)).toNat) - a1.toNat) a2p a2n 1 fun w3 =>
                      chk (decide (0 ≤ (IntKind.i64.wrap (a1 + ((a2n : Nat) : Int))))) (
                        chk (decide ((IntKind.i64.wrap (a1 + ((a2n : Nat) : Int))) ≤ (((a1.toNat + (IntKind.i64.wrap ((IntKind.i64.wrap (((a0n : Nat) : Int) + ((a2n : Nat) : Int))) - a1)).toNat) : Nat) : Int))) (
                          chk (decide (0 ≤ a1)) (
                          chk (decide (a1 ≤ ((a0n : Nat) : Int))) (
                          copyP w3.drew (slA p2 c2 ((IntKind.i64.wrap (a1 + ((a2n : Nat) : Int))).toNat) 1) ((a1.toNat + (IntKind.i64.wrap ((IntKind.i64.wrap (((a0n : Nat) : Int) + ((a2n : Nat) : Int))) - a1)).toNat) - (IntKind.i64.wrap (a1 + ((a2n : Nat) : Int))).toNat) (slA a0p a0c a1.toNat 1) (a0n - a1.toNat) 1 fun w4 =>
                          R (.returned (Value.slice p2 (a1.toNat + (IntKind.i64.wrap ((IntKind.i64.wrap (((a0n : Nat) : Int) + ((a2n : Nat) : Int))) - a1)).toNat) c2)) w4)))))))))) (
            chk (decide (0 ≤ (IntKind.i64.wrap (((a0n : Nat) : Int) + ((a2n : Nat) : Int))))) (
              chk (decide ((IntKind.i64.wrap (((a0n : Nat) : Int) + ((a2n : Nat) : Int))) ≤ ((a0c : Nat) : Int))) (
                chk (decide (0 ≤ (IntKind.i64.wrap (a1 + ((a2n : Nat) : Int))))) (
                  chk (decide ((IntKind.i64.wrap (a1 + ((a2n : Nat) : Int))) ≤ (((IntKind.i64.wrap (((a0n : Nat) : Int) + ((a2n : Nat) : Int))).toNat : Nat) : Int))) (
                    extP Try.prog 34 #[(Value.slice a2p a2n a2c), (Value.slice (slA (slA a0p a0c 0 1) a0c ((IntKind.i64.wrap (a1 + ((a2n : Nat) : Int))).toNat) 1) ((IntKind.i64.wrap (((a0n : Nat) : Int) + ((a2n : Nat) : Int))).toNat - (IntKind.i64.wrap (a1 + ((a2n : Nat) : Int))).toNat) (a0c - (IntKind.i64.wrap (a1 + ((a2n : Nat) : Int))).toNat))] w fun v1 w5 =>
                    dB v1 fun b1 =>
                    cond (!b1) (
                      chk (decide (0 ≤ (IntKind.i64.wrap (a1 + ((a2n : Nat) : Int))))) (
                        chk (decide ((IntKind.i64.wrap (a1 + ((a2n : Nat) : Int))) ≤ (((IntKind.i64.wrap (((a0n : Nat) : Int) + ((a2n : Nat) : Int))).toNat : Nat) : Int))) (
                          chk (decide (0 ≤ a1)) (
                          chk (decide (a1 ≤ (((IntKind.i64.wrap (((a0n : Nat) : Int) + ((a2n : Nat) : Int))).toNat : Nat) : Int))) (
                          copyP w5.drew (slA (slA a0p a0c 0 1) a0c ((IntKind.i64.wrap (a1 + ((a2n : Nat) : Int))).toNat) 1) ((IntKind.i64.wrap (((a0n : Nat) : Int) + ((a2n : Nat) : Int))).toNat - (IntKind.i64.wrap (a1 + ((a2n : Nat) : Int))).toNat) (slA (slA a0p a0c 0 1) a0c a1.toNat 1) ((IntKind.i64.wrap (((a0n : Nat) : Int) + ((a2n : Nat) : Int))).toNat - a1.toNat) 1 fun w6 =>
                          chk (decide (0 ≤ a1)) (
                          chk (decide (a1 ≤ (((IntKind.i64.wrap (((a0n : Nat) : Int) + ((a2n : Nat) : Int))).toNat : Nat) : Int))) (
                          copyP w6 (slA (slA a0p a0c 0 1) a0c a1.toNat 1) ((IntKind.i64.wrap (((a0n : Nat) : Int) + ((a2n : Nat) : Int))).toNat - a1.toNat) a2p a2n 1 fun w7 =>
                          R (.returned (Value.slice (slA a0p a0c 0 1) ((IntKind.i64.wrap (((a0n : Nat) : Int) + ((a2n : Nat) : Int))).toNat) a0c)) w7))))))) (
                      chk (decide (0 ≤ ((a0n : Nat) : Int))) (
                        chk (decide (((a0n : Nat) : Int) ≤ (((IntKind.i64.wrap (((a0n : Nat) : Int) + ((a2n : Nat) : Int))).toNat : Nat) : Int))) (
                          copyP w5 (slA (slA a0p a0c 0 1) a0c a0n 1) ((IntKind.i64.wrap (((a0n : Nat) : Int) + ((a2n : Nat) : Int))).toNat - a0n) a2p a2n 1 fun w8 =>
                          chk (decide (0 ≤ a1)) (
                          chk (decide (a1 ≤ (((IntKind.i64.wrap (((a0n : Nat) : Int) + ((a2n : Nat) : Int))).toNat : Nat) : Int))) (
                          callP Try.prog 35 #[(Value.slice (slA (slA a0p a0c 0 1) a0c a1.toNat 1) ((IntKind.i64.wrap (((a0n : Nat) : Int) + ((a2n : Nat) : Int))).toNat - a1.toNat) (a0c - a1.toNat)), (Value.int .i64 ((a2n : Nat) : Int))] w8 (fun v2 w9 =>
                          dT v2 fun vs1 =>
                          R (.returned (Value.slice (slA a0p a0c 0 1) ((IntKind.i64.wrap (((a0n : Nat) : Int) + ((a2n : Nat) : Int))).toNat) a0c)) w9) (fun ch w10 => R (.panicked ch) w10)))))))))))))))
abbrev slices_Insert_int_int.C (a0p : Option Addr) (a0n : Nat) (a0c : Nat) (a1 : Int) (a2p : Option Addr) (a2n : Nat) (a2c : Nat) (w : World) (R : Ending → World → Prop) : Prop := Calls Try.prog 28 #[(Value.slice a0p a0n a0c), (Value.int .i64 a1), (Value.slice a2p a2n a2c)] w R
noncomputable def slices_Insert_int_int.code : Code := (Try.f28.body).getD .skip
noncomputable def slices_Insert_int_int.sk (R : Ending → World → Prop) : Sk := .leaf
def slices_Insert_int_int.owed (R : Ending → World → Prop) : Prop :=
  True
theorem slices_Insert_int_int.pays (R : Ending → World → Prop) : slices_Insert_int_int.owed R := trivial
set_option maxRecDepth 100000 in
theorem slices_Insert_int_int.ok {a0p : Option Addr} {a0n : Nat} {a0c : Nat} {a1 : Int} {a2p : Option Addr} {a2n : Nat} {a2c : Nat} {w : World} {R : Ending → World → Prop} (h : slices_Insert_int_int.main a0p a0n a0c a1 a2p a2n a2c w R) : slices_Insert_int_int.C a0p a0n a0c a1 a2p a2n a2c w R :=
  ev_ok cxok (c := cx) Try.func28 (code := slices_Insert_int_int.code) (by kernel_rfl) [.tmp 6] (by kernel_rfl) 95 (by kernel_rfl) (slices_Insert_int_int.sk R) (args := [(Value.slice a0p a0n a0c), (Value.int .i64 a1), (Value.slice a2p a2n a2c)]) (Nat.le_of_ble_eq_true rfl) (by kernel_rfl) (o := slices_Insert_int_int.owed R) (by kernel_rfl) (slices_Insert_int_int.pays R) h

/-! ### stopcock/axis.width: function 30 -/
def axis_width.main (a0 : Int) (w : World) (R : Ending → World → Prop) : Prop :=
  cond (decide (a0 ≥ 1)) (
    R (.returned (Value.bool (decide (a0 ≤ 16)))) w) (
    R (.returned (Value.bool false)) w)
abbrev axis_width.C (a0 : Int) (w : World) (R : Ending → World → Prop) : Prop := Calls Try.prog 30 #[(Value.int .i64 a0)] w R
noncomputable def axis_width.code : Code := (Try.f30.body).getD .skip
noncomputable def axis_width.sk (R : Ending → World → Prop) : Sk := .leaf
def axis_width.owed (R : Ending → World → Prop) : Prop :=
  True
theorem axis_width.pays (R : Ending → World → Prop) : axis_width.owed R := trivial
set_option maxRecDepth 100000 in
theorem axis_width.ok {a0 : Int} {w : World} {R : Ending → World → Prop} (h : axis_width.main a0 w R) : axis_width.C a0 w R :=
  ev_ok cxok (c := cx) Try.func30 (code := axis_width.code) (by kernel_rfl) [.tmp 2] (by kernel_rfl) 9 (by kernel_rfl) (axis_width.sk R) (args := [(Value.int .i64 a0)]) (Nat.le_of_ble_eq_true rfl) (by kernel_rfl) (o := axis_width.owed R) (by kernel_rfl) (axis_width.pays R) h

/-! ### slices.Index[[]int,int]: function 31 -/
def slices_Index_int_int.b1 (t0p : Option Addr) (t0n : Nat) (t0c : Nat) (t1 : Int) (t7 : Int) (t8 : Int) (w : World) (R : Ending → World → Prop) (C1 : Option Addr → Nat → Nat → Int → Int → Int → World → Prop) : Prop :=
  cond (decide (t8 < t7)) (
    chk (decide (0 ≤ t8)) (
      chk (decide (t8 < ((t0n : Nat) : Int))) (
        optP t0p fun d1 =>
        ∃ (x1 : Int), w.cell? (d1.add (t8.toNat * 1)) = some (Value.int .i64 x1) ∧
        (cond (t1 == x1) (
            R (.returned (Value.int .i64 t8)) w) (
            C1 t0p t0n t0c t1 t7 (IntKind.i64.wrap (t8 + 1)) w))))) (
    R (.returned (Value.int .i64 (-1))) w)
def slices_Index_int_int.l1 (t0p : Option Addr) (t0n : Nat) (t0c : Nat) (t1 : Int) (t7 : Int) (t8 : Int) (w : World) (R : Ending → World → Prop) : Prop :=
  ∃ (I : Option Addr → Nat → Nat → Int → Int → Int → World → Prop) (m : Option Addr → Nat → Nat → Int → Int → Int → World → Nat), I t0p t0n t0c t1 t7 t8 w ∧
  ∀ (t0p : Option Addr) (t0n : Nat) (t0c : Nat) (t1 : Int) (t7 : Int) (t8 : Int) (w : World), I t0p t0n t0c t1 t7 t8 w →
  slices_Index_int_int.b1 t0p t0n t0c t1 t7 t8 w R (fun t0p' t0n' t0c' t1' t7' t8' w' => I t0p' t0n' t0c' t1' t7' t8' w' ∧ m t0p' t0n' t0c' t1' t7' t8' w' < m t0p t0n t0c t1 t7 t8 w)
def slices_Index_int_int.main (a0p : Option Addr) (a0n : Nat) (a0c : Nat) (a1 : Int) (w : World) (R : Ending → World → Prop) : Prop :=
  slices_Index_int_int.l1 a0p a0n a0c a1 ((a0n : Nat) : Int) 0 w R
abbrev slices_Index_int_int.C (a0p : Option Addr) (a0n : Nat) (a0c : Nat) (a1 : Int) (w : World) (R : Ending → World → Prop) : Prop := Calls Try.prog 31 #[(Value.slice a0p a0n a0c), (Value.int .i64 a1)] w R
noncomputable def slices_Index_int_int.code : Code := (Try.f31.body).getD .skip
noncomputable def slices_Index_int_int.sk (R : Ending → World → Prop) : Sk := (.seq .leaf (.seq (.seq .leaf (.block (.loop [(0, .slice), (1, .int .i64), (7, .int .i64), (8, .int .i64)] (fun (t0p : Option Addr) (t0n : Nat) (t0c : Nat) (t1 : Int) (t7 : Int) (t8 : Int) (w : World) => slices_Index_int_int.l1 t0p t0n t0c t1 t7 t8 w R) (fun (C1 : Option Addr → Nat → Nat → Int → Int → Int → World → Prop) => .leaf)))) .leaf))
def slices_Index_int_int.owed (R : Ending → World → Prop) : Prop :=
  (∀ (t0p : Option Addr) (t0n : Nat) (t0c : Nat) (t1 : Int) (t7 : Int) (t8 : Int) (w : World), slices_Index_int_int.l1 t0p t0n t0c t1 t7 t8 w R → slices_Index_int_int.l1 t0p t0n t0c t1 t7 t8 w R) ∧ (∀ (C1 : Option Addr → Nat → Nat → Int → Int → Int → World → Prop), True) ∧ True
theorem slices_Index_int_int.pays (R : Ending → World → Prop) : slices_Index_int_int.owed R := ⟨(fun _ _ _ _ _ _ _ h => h), (fun _ => trivial), trivial⟩
set_option maxRecDepth 100000 in
theorem slices_Index_int_int.ok {a0p : Option Addr} {a0n : Nat} {a0c : Nat} {a1 : Int} {w : World} {R : Ending → World → Prop} (h : slices_Index_int_int.main a0p a0n a0c a1 w R) : slices_Index_int_int.C a0p a0n a0c a1 w R :=
  ev_ok cxok (c := cx) Try.func31 (code := slices_Index_int_int.code) (by kernel_rfl) [.tmp 4] (by kernel_rfl) 19 (by kernel_rfl) (slices_Index_int_int.sk R) (args := [(Value.slice a0p a0n a0c), (Value.int .i64 a1)]) (Nat.le_of_ble_eq_true rfl) (by kernel_rfl) (o := slices_Index_int_int.owed R) (by kernel_rfl) (slices_Index_int_int.pays R) h

end Go.Proofs.Ythopiffhkldnhaa.G

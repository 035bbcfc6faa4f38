/- Statements of functions, and that their calls do what they say. Printed by wip/tool/dec.py. Conditions: none. -/
import Derived.Test.YthopiffhkldnhaaG0
namespace Go.Proofs.Ythopiffhkldnhaa.G
open Go.Dec
set_option linter.unusedVariables false

/-! ### cmp.Less[int]: function 32 -/
def cmp_Less_int.main (a0 : Int) (a1 : Int) (w : World) (R : Ending → World → Prop) : Prop :=
  callP Try.prog 37 #[(Value.int .i64 a0)] w (fun v1 w1 =>
    dB v1 fun b1 =>
    cond b1 (
      callP Try.prog 37 #[(Value.int .i64 a1)] w1 (fun v2 w3 =>
        dB v2 fun b2 =>
        cond (!b2) (
          R (.returned (Value.bool true)) w3) (
          R (.returned (Value.bool (decide (a0 < a1)))) w3)) (fun ch w4 => R (.panicked ch) w4)) (
      R (.returned (Value.bool (decide (a0 < a1)))) w1)) (fun ch w2 => R (.panicked ch) w2)
abbrev cmp_Less_int.C (a0 : Int) (a1 : Int) (w : World) (R : Ending → World → Prop) : Prop := Calls Try.prog 32 #[(Value.int .i64 a0), (Value.int .i64 a1)] w R
noncomputable def cmp_Less_int.code : Code := (Try.f32.body).getD .skip
noncomputable def cmp_Less_int.sk (R : Ending → World → Prop) : Sk := .leaf
def cmp_Less_int.owed (R : Ending → World → Prop) : Prop :=
  True
theorem cmp_Less_int.pays (R : Ending → World → Prop) : cmp_Less_int.owed R := trivial
set_option maxRecDepth 100000 in
theorem cmp_Less_int.ok {a0 : Int} {a1 : Int} {w : World} {R : Ending → World → Prop} (h : cmp_Less_int.main a0 a1 w R) : cmp_Less_int.C a0 a1 w R :=
  ev_ok cxok (c := cx) Try.func32 (code := cmp_Less_int.code) (by kernel_rfl) [.tmp 4] (by kernel_rfl) 17 (by kernel_rfl) (cmp_Less_int.sk R) (args := [(Value.int .i64 a0), (Value.int .i64 a1)]) (Nat.le_of_ble_eq_true rfl) (by kernel_rfl) (o := cmp_Less_int.owed R) (by kernel_rfl) (cmp_Less_int.pays R) h

/-! ### slices.isNaN[int]: function 33 -/
def slices_isNaN_int.main (a0 : Int) (w : World) (R : Ending → World → Prop) : Prop :=
  R (.returned (Value.bool (a0 != a0))) w
abbrev slices_isNaN_int.C (a0 : Int) (w : World) (R : Ending → World → Prop) : Prop := Calls Try.prog 33 #[(Value.int .i64 a0)] w R
noncomputable def slices_isNaN_int.code : Code := (Try.f33.body).getD .skip
noncomputable def slices_isNaN_int.sk (R : Ending → World → Prop) : Sk := .leaf
def slices_isNaN_int.owed (R : Ending → World → Prop) : Prop :=
  True
theorem slices_isNaN_int.pays (R : Ending → World → Prop) : slices_isNaN_int.owed R := trivial
set_option maxRecDepth 100000 in
theorem slices_isNaN_int.ok {a0 : Int} {w : World} {R : Ending → World → Prop} (h : slices_isNaN_int.main a0 w R) : slices_isNaN_int.C a0 w R :=
  ev_ok cxok (c := cx) Try.func33 (code := slices_isNaN_int.code) (by kernel_rfl) [.tmp 2] (by kernel_rfl) 6 (by kernel_rfl) (slices_isNaN_int.sk R) (args := [(Value.int .i64 a0)]) (Nat.le_of_ble_eq_true rfl) (by kernel_rfl) (o := slices_isNaN_int.owed R) (by kernel_rfl) (slices_isNaN_int.pays R) h

/-! ### slices.rotateRight[int]: function 35 -/
def slices_rotateRight_int.main (a0p : Option Addr) (a0n : Nat) (a0c : Nat) (a1 : Int) (w : World) (R : Ending → World → Prop) : Prop :=
  callP Try.prog 38 #[(Value.slice a0p a0n a0c), (Value.int .i64 (IntKind.i64.wrap (((a0n : Nat) : Int) - a1)))] w (fun v1 w1 =>
    dT v1 fun vs1 =>
    R (.returned (Value.tuple #[])) w1) (fun ch w2 => R (.panicked ch) w2)
abbrev slices_rotateRight_int.C (a0p : Option Addr) (a0n : Nat) (a0c : Nat) (a1 : Int) (w : World) (R : Ending → World → Prop) : Prop := Calls Try.prog 35 #[(Value.slice a0p a0n a0c), (Value.int .i64 a1)] w R
noncomputable def slices_rotateRight_int.code : Code := (Try.f35.body).getD .skip
noncomputable def slices_rotateRight_int.sk (R : Ending → World → Prop) : Sk := .leaf
def slices_rotateRight_int.owed (R : Ending → World → Prop) : Prop :=
  True
theorem slices_rotateRight_int.pays (R : Ending → World → Prop) : slices_rotateRight_int.owed R := trivial
set_option maxRecDepth 100000 in
theorem slices_rotateRight_int.ok {a0p : Option Addr} {a0n : Nat} {a0c : Nat} {a1 : Int} {w : World} {R : Ending → World → Prop} (h : slices_rotateRight_int.main a0p a0n a0c a1 w R) : slices_rotateRight_int.C a0p a0n a0c a1 w R :=
  ev_ok cxok (c := cx) Try.func35 (code := slices_rotateRight_int.code) (by kernel_rfl) [] (by kernel_rfl) 10 (by kernel_rfl) (slices_rotateRight_int.sk R) (args := [(Value.slice a0p a0n a0c), (Value.int .i64 a1)]) (Nat.le_of_ble_eq_true rfl) (by kernel_rfl) (o := slices_rotateRight_int.owed R) (by kernel_rfl) (slices_rotateRight_int.pays R) h

/-! ### cmp.isNaN[int]: function 37 -/
def cmp_isNaN_int.main (a0 : Int) (w : World) (R : Ending → World → Prop) : Prop :=
  R (.returned (Value.bool (a0 != a0))) w
abbrev cmp_isNaN_int.C (a0 : Int) (w : World) (R : Ending → World → Prop) : Prop := Calls Try.prog 37 #[(Value.int .i64 a0)] w R
noncomputable def cmp_isNaN_int.code : Code := (Try.f37.body).getD .skip
noncomputable def cmp_isNaN_int.sk (R : Ending → World → Prop) : Sk := .leaf
def cmp_isNaN_int.owed (R : Ending → World → Prop) : Prop :=
  True
theorem cmp_isNaN_int.pays (R : Ending → World → Prop) : cmp_isNaN_int.owed R := trivial
set_option maxRecDepth 100000 in
theorem cmp_isNaN_int.ok {a0 : Int} {w : World} {R : Ending → World → Prop} (h : cmp_isNaN_int.main a0 w R) : cmp_isNaN_int.C a0 w R :=
  ev_ok cxok (c := cx) Try.func37 (code := cmp_isNaN_int.code) (by kernel_rfl) [.tmp 2] (by kernel_rfl) 6 (by kernel_rfl) (cmp_isNaN_int.sk R) (args := [(Value.int .i64 a0)]) (Nat.le_of_ble_eq_true rfl) (by kernel_rfl) (o := cmp_isNaN_int.owed R) (by kernel_rfl) (cmp_isNaN_int.pays R) h

/-! ### slices.rotateLeft[int]: function 38 -/
def slices_rotateLeft_int.main (a0p : Option Addr) (a0n : Nat) (a0c : Nat) (a1 : Int) (w : World) (R : Ending → World → Prop) : Prop :=
  chk (decide (0 ≤ a1)) (
    chk (decide (a1 ≤ ((a0c : Nat) : Int))) (
      callP Try.prog 39 #[(Value.slice (slA a0p a0c 0 1) a1.toNat a0c)] w (fun v1 w1 =>
        dT v1 fun vs1 =>
        chk (decide (0 ≤ a1)) (
          chk (decide (a1 ≤ ((a0n : Nat) : Int))) (
            callP Try.prog 39 #[(Value.slice (slA a0p a0c a1.toNat 1) (a0n - a1.toNat) (a0c - a1.toNat))] w1 (fun v2 w3 =>
              dT v2 fun vs2 =>
              callP Try.prog 39 #[(Value.slice a0p a0n a0c)] w3 (fun v3 w5 =>
                dT v3 fun vs3 =>
                R (.returned (Value.tuple #[])) w5) (fun ch w6 => R (.panicked ch) w6)) (fun ch w4 => R (.panicked ch) w4)))) (fun ch w2 => R (.panicked ch) w2)))
abbrev slices_rotateLeft_int.C (a0p : Option Addr) (a0n : Nat) (a0c : Nat) (a1 : Int) (w : World) (R : Ending → World → Prop) : Prop := Calls Try.prog 38 #[(Value.slice a0p a0n a0c), (Value.int .i64 a1)] w R
noncomputable def slices_rotateLeft_int.code : Code := (Try.f38.body).getD .skip
noncomputable def slices_rotateLeft_int.sk (R : Ending → World → Prop) : Sk := .leaf
def slices_rotateLeft_int.owed (R : Ending → World → Prop) : Prop :=
  True
theorem slices_rotateLeft_int.pays (R : Ending → World → Prop) : slices_rotateLeft_int.owed R := trivial
set_option maxRecDepth 100000 in
theorem slices_rotateLeft_int.ok {a0p : Option Addr} {a0n : Nat} {a0c : Nat} {a1 : Int} {w : World} {R : Ending → World → Prop} (h : slices_rotateLeft_int.main a0p a0n a0c a1 w R) : slices_rotateLeft_int.C a0p a0n a0c a1 w R :=
  ev_ok cxok (c := cx) Try.func38 (code := slices_rotateLeft_int.code) (by kernel_rfl) [] (by kernel_rfl) 14 (by kernel_rfl) (slices_rotateLeft_int.sk R) (args := [(Value.slice a0p a0n a0c), (Value.int .i64 a1)]) (Nat.le_of_ble_eq_true rfl) (by kernel_rfl) (o := slices_rotateLeft_int.owed R) (by kernel_rfl) (slices_rotateLeft_int.pays R) h

/-! ### slices.Reverse[[]int,int]: function 39 -/
def slices_Reverse_int_int.b1 (t0p : Option Addr) (t0n : Nat) (t0c : Nat) (t2 : Int) (t3 : Int) (w : World) (R : Ending → World → Prop) (C1 : Option Addr → Nat → Nat → Int → Int → World → Prop) : Prop :=
  cond (decide (t2 < t3)) (
    chk (decide (0 ≤ t3)) (
      chk (decide (t3 < ((t0n : Nat) : Int))) (
        optP t0p fun d1 =>
        ∃ (x1 : Int), w.drew.cell? (d1.add (t3.toNat * 1)) = some (Value.int .i64 x1) ∧
        (chk (decide (0 ≤ t2)) (
            chk (decide (t2 < ((t0n : Nat) : Int))) (
              optP t0p fun d2 =>
              ∃ (x2 : Int), w.drew.cell? (d2.add (t2.toNat * 1)) = some (Value.int .i64 x2) ∧
              (chk (decide (0 ≤ t2)) (
                  chk (decide (t2 < ((t0n : Nat) : Int))) (
                    optP t0p fun d3 =>
                    (w.drew.cell? (d3.add (t2.toNat * 1))).isSome = true ∧ w.drew.frozen? (d3.add (t2.toNat * 1)) = false ∧ ∀ w1, w1 = w.drew.setCell (d3.add (t2.toNat * 1)) (Value.int .i64 x1) →
                    (chk (decide (0 ≤ t3)) (
                        chk (decide (t3 < ((t0n : Nat) : Int))) (
                          optP t0p fun d4 =>
                          (w1.cell? (d4.add (t3.toNat * 1))).isSome = true ∧ w1.frozen? (d4.add (t3.toNat * 1)) = false ∧ ∀ w2, w2 = w1.setCell (d4.add (t3.toNat * 1)) (Value.int .i64 x2) →
                          (C1 t0p t0n t0c (IntKind.i64.wrap (t2 + 1)) (IntKind.i64.wrap (t3 - 1)) w2))))))))))))) (
    R (.returned (Value.tuple #[])) w)
def slices_Reverse_int_int.l1 (t0p : Option Addr) (t0n : Nat) (t0c : Nat) (t2 : Int) (t3 : Int) (w : World) (R : Ending → World → Prop) : Prop :=
  ∃ (I : Option Addr → Nat → Nat → Int → Int → World → Prop) (m : Option Addr → Nat → Nat → Int → Int → World → Nat), I t0p t0n t0c t2 t3 w ∧
  ∀ (t0p : Option Addr) (t0n : Nat) (t0c : Nat) (t2 : Int) (t3 : Int) (w : World), I t0p t0n t0c t2 t3 w →
  slices_Reverse_int_int.b1 t0p t0n t0c t2 t3 w R (fun t0p' t0n' t0c' t2' t3' w' => I t0p' t0n' t0c' t2' t3' w' ∧ m t0p' t0n' t0c' t2' t3' w' < m t0p t0n t0c t2 t3 w)
def slices_Reverse_int_int.main (a0p : Option Addr) (a0n : Nat) (a0c : Nat) (w : World) (R : Ending → World → Prop) : Prop :=
  slices_Reverse_int_int.l1 a0p a0n a0c 0 (IntKind.i64.wrap (((a0n : Nat) : Int) - 1)) w R
abbrev slices_Reverse_int_int.C (a0p : Option Addr) (a0n : Nat) (a0c : Nat) (w : World) (R : Ending → World → Prop) : Prop := Calls Try.prog 39 #[(Value.slice a0p a0n a0c)] w R
noncomputable def slices_Reverse_int_int.code : Code := (Try.f39.body).getD .skip
noncomputable def slices_Reverse_int_int.sk (R : Ending → World → Prop) : Sk := (.seq .leaf (.block (.loop [(0, .slice), (2, .int .i64), (3, .int .i64)] (fun (t0p : Option Addr) (t0n : Nat) (t0c : Nat) (t2 : Int) (t3 : Int) (w : World) => slices_Reverse_int_int.l1 t0p t0n t0c t2 t3 w R) (fun (C1 : Option Addr → Nat → Nat → Int → Int → World → Prop) => .leaf))))
def slices_Reverse_int_int.owed (R : Ending → World → Prop) : Prop :=
  (∀ (t0p : Option Addr) (t0n : Nat) (t0c : Nat) (t2 : Int) (t3 : Int) (w : World), slices_Reverse_int_int.l1 t0p t0n t0c t2 t3 w R → slices_Reverse_int_int.l1 t0p t0n t0c t2 t3 w R) ∧ (∀ (C1 : Option Addr → Nat → Nat → Int → Int → World → Prop), True) ∧ True
theorem slices_Reverse_int_int.pays (R : Ending → World → Prop) : slices_Reverse_int_int.owed R := ⟨(fun _ _ _ _ _ _ h => h), (fun _ => trivial), trivial⟩
set_option maxRecDepth 100000 in
theorem slices_Reverse_int_int.ok {a0p : Option Addr} {a0n : Nat} {a0c : Nat} {w : World} {R : Ending → World → Prop} (h : slices_Reverse_int_int.main a0p a0n a0c w R) : slices_Reverse_int_int.C a0p a0n a0c w R :=
  ev_ok cxok (c := cx) Try.func39 (code := slices_Reverse_int_int.code) (by kernel_rfl) [] (by kernel_rfl) 28 (by kernel_rfl) (slices_Reverse_int_int.sk R) (args := [(Value.slice a0p a0n a0c)]) (Nat.le_of_ble_eq_true rfl) (by kernel_rfl) (o := slices_Reverse_int_int.owed R) (by kernel_rfl) (slices_Reverse_int_int.pays R) h

/-! ### stopcock/stopcocklaw16.StrandOnce: function 4 -/
def stopcocklaw16_StrandOnce.b2 (t9 : Nat) (t10p : Option Addr) (t10n : Nat) (t10c : Nat) (t14 : Option Addr) (t16 : Int) (t17 : Int) (t18p : Option Addr) (t18n : Nat) (t18c : Nat) (t19 : Int) (w : World) (R : Ending → World → Prop) (C2 : Nat → Option Addr → Nat → Nat → Option Addr → Int → Int → Option Addr → Nat → Nat → Int → World → Prop) : Prop :=
  cond (decide (t19 ≤ t17)) (
    callP Try.prog 12 #[(Value.pointer t14), (Value.int .i64 t16)] w (fun v5 w13 =>
      dB v5 fun b8 =>
      cond (!(b8 == (decide (t19 < t17)))) (
        R (.returned (Value.bool false)) w13) (
        callP Try.prog 10 #[(Value.pointer t14), (Value.int .i64 t16)] w13 (fun v6 w15 =>
          dT v6 fun vs2 =>
          optP (vs2[0]?) fun v7 =>
          dC v7 fun r1 m1 =>
          optP (vs2[1]?) fun v8 =>
          dI .i64 v8 fun x6 =>
          cond (t19 == t17) (
            cond (x6 == 9) (
              R (.returned (Value.bool (fCmp .eql r1 0 && fCmp .eql m1 0))) w15) (
              R (.returned (Value.bool false)) w15)) (
            ∃ (x7 : Int), w15.cell? (⟨t9, 1, none⟩ : Addr) = some (Value.int .i64 x7) ∧
            (callP Try.prog 19 #[(Value.complex .f64 r1 m1), (Value.int .i64 x7)] w15 (fun v9 w17 =>
                dT v9 fun vs3 =>
                optP (vs3[0]?) fun v10 =>
                dI .i64 v10 fun x8 =>
                optP (vs3[1]?) fun v11 =>
                dI .i64 v11 fun x9 =>
                cond (x6 != 0) (
                  R (.returned (Value.bool false)) w17) (
                  cond (x9 != 0) (
                    R (.returned (Value.bool false)) w17) (
                    chk (decide (0 ≤ x8)) (
                      chk (decide (x8 < ((t18n : Nat) : Int))) (
                        optP t18p fun d4 =>
                        ∃ (b9 : Bool), w17.cell? (d4.add (x8.toNat * 1)) = some (Value.bool b9) ∧
                        (cond b9 (
                          R (.returned (Value.bool false)) w17) (
                          ∃ (x10 : Int), w17.cell? (⟨t9, 1, none⟩ : Addr) = some (Value.int .i64 x10) ∧
                          (chk (decide (x10 ≠ 0)) (
                          chk (decide (0 ≤ (IntKind.i64.wrap (Int.tdiv x8 x10)))) (
                          chk (decide ((IntKind.i64.wrap (Int.tdiv x8 x10)) < ((t10n : Nat) : Int))) (
                          optP t10p fun d5 =>
                          ∃ (b10 : Bool), w17.cell? (d5.add ((IntKind.i64.wrap (Int.tdiv x8 x10)).toNat * 1)) = some (Value.bool b10) ∧
                          (cond (!b10) (
                          R (.returned (Value.bool false)) w17) (
                          chk (decide (0 ≤ x8)) (
                          chk (decide (x8 < ((t18n : Nat) : Int))) (
                          optP t18p fun d6 =>
                          (w17.cell? (d6.add (x8.toNat * 1))).isSome = true ∧ w17.frozen? (d6.add (x8.toNat * 1)) = false ∧ ∀ w19, w19 = w17.setCell (d6.add (x8.toNat * 1)) (Value.bool true) →
                          (C2 t9 t10p t10n t10c t14 t16 t17 t18p t18n t18c (IntKind.i64.wrap (t19 + 1)) w19)))))))))))))))) (fun ch w18 => R (.panicked ch) w18)))) (fun ch w16 => R (.panicked ch) w16))) (fun ch w14 => R (.panicked ch) w14)) (
    R (.returned (Value.bool false)) w)
def stopcocklaw16_StrandOnce.l2 (t9 : Nat) (t10p : Option Addr) (t10n : Nat) (t10c : Nat) (t14 : Option Addr) (t16 : Int) (t17 : Int) (t18p : Option Addr) (t18n : Nat) (t18c : Nat) (t19 : Int) (w : World) (R : Ending → World → Prop) : Prop :=
  ∃ (I : Nat → Option Addr → Nat → Nat → Option Addr → Int → Int → Option Addr → Nat → Nat → Int → World → Prop) (m : Nat → Option Addr → Nat → Nat → Option Addr → Int → Int → Option Addr → Nat → Nat → Int → World → Nat), I t9 t10p t10n t10c t14 t16 t17 t18p t18n t18c t19 w ∧
  ∀ (t9 : Nat) (t10p : Option Addr) (t10n : Nat) (t10c : Nat) (t14 : Option Addr) (t16 : Int) (t17 : Int) (t18p : Option Addr) (t18n : Nat) (t18c : Nat) (t19 : Int) (w : World), I t9 t10p t10n t10c t14 t16 t17 t18p t18n t18c t19 w →
  stopcocklaw16_StrandOnce.b2 t9 t10p t10n t10c t14 t16 t17 t18p t18n t18c t19 w R (fun t9' t10p' t10n' t10c' t14' t16' t17' t18p' t18n' t18c' t19' w' => I t9' t10p' t10n' t10c' t14' t16' t17' t18p' t18n' t18c' t19' w' ∧ m t9' t10p' t10n' t10c' t14' t16' t17' t18p' t18n' t18c' t19' w' < m t9 t10p t10n t10c t14 t16 t17 t18p t18n t18c t19 w)
def stopcocklaw16_StrandOnce.k2 (t9 : Nat) (t10p : Option Addr) (t10n : Nat) (t10c : Nat) (t14 : Option Addr) (t16 : Int) (t17 : Int) (w : World) (R : Ending → World → Prop) : Prop :=
  newP w (madeCells #[(Value.bool false)] (384 * 1)) 4 fun b7 w12 =>
  stopcocklaw16_StrandOnce.l2 t9 t10p t10n t10c t14 t16 t17 (some ⟨b7, 0, none⟩) 384 384 0 w12 R
def stopcocklaw16_StrandOnce.k1 (t2 : Int) (t9 : Nat) (t10p : Option Addr) (t10n : Nat) (t10c : Nat) (t11p : Option Addr) (t11n : Nat) (t11c : Nat) (w : World) (R : Ending → World → Prop) : Prop :=
  ∃ (cs1 : Array Value), cs1.size = 2 ∧ CellsAt w (⟨t9, 0, none⟩ : Addr) cs1.toList ∧
  (callP Try.prog 7 #[(Value.agg cs1), (Value.slice t11p t11n t11c)] w (fun v1 w8 =>
      dT v1 fun vs1 =>
      optP (vs1[0]?) fun v2 =>
      dP v2 fun p2 =>
      optP (vs1[1]?) fun v3 =>
      dI .i64 v3 fun x4 =>
      callP Try.prog 9 #[] w8 (fun v4 w10 =>
        dB v4 fun b6 =>
        cond (!b6) (
          R (.returned (Value.bool false)) w10) (
          cond (x4 != 0) (
            R (.returned (Value.bool false)) w10) (
            cond (Option.isNone p2) (
              R (.returned (Value.bool false)) w10) (
              ∃ (x5 : Int), w10.cell? (⟨t9, 1, none⟩ : Addr) = some (Value.int .i64 x5) ∧
              (cond (decide ((IntKind.i64.wrap ((IntKind.i64.wrap (((t11n : Nat) : Int) - (IntKind.i64.wrap (Int.tmod t2 8)))) * x5)) < 0)) (
                  stopcocklaw16_StrandOnce.k2 t9 t10p t10n t10c p2 (IntKind.i64.wrap (Int.tmod t2 8)) 0 w10 R) (
                  stopcocklaw16_StrandOnce.k2 t9 t10p t10n t10c p2 (IntKind.i64.wrap (Int.tmod t2 8)) (IntKind.i64.wrap ((IntKind.i64.wrap (((t11n : Nat) : Int) - (IntKind.i64.wrap (Int.tmod t2 8)))) * x5)) w10 R)))))) (fun ch w11 => R (.panicked ch) w11)) (fun ch w9 => R (.panicked ch) w9))
def stopcocklaw16_StrandOnce.b1 (t2 : Int) (t3p : Option Addr) (t3n : Nat) (t3c : Nat) (t9 : Nat) (t10p : Option Addr) (t10n : Nat) (t10c : Nat) (t11p : Option Addr) (t11n : Nat) (t11c : Nat) (t12 : Int) (w : World) (R : Ending → World → Prop) (C1 : Int → Option Addr → Nat → Nat → Nat → Option Addr → Nat → Nat → Option Addr → Nat → Nat → Int → World → Prop) : Prop :=
  cond (decide (t12 < ((t3n : Nat) : Int))) (
    cond (decide (t12 < 100)) (
      chk (decide (0 ≤ t12)) (
        chk (decide (t12 < ((t3n : Nat) : Int))) (
          optP t3p fun d1 =>
          ∃ (x2 : Int), w.cell? (d1.add (t12.toNat * 1)) = some (Value.int .u8 x2) ∧
          (∃ (x3 : Int), w.cell? (⟨t9, 0, none⟩ : Addr) = some (Value.int .i64 x3) ∧
            (chk (decide (x3 ≠ 0)) (
                ∀ k1 : Nat,
                chk (decide (0 ≤ (Int.tmod (IntKind.i64.wrap x2) x3))) (
                  chk (decide ((Int.tmod (IntKind.i64.wrap x2) x3) < ((t10n : Nat) : Int))) (
                    optP t10p fun d2 =>
                    ∃ (b4 : Bool), (w.drewN k1).cell? (d2.add ((Int.tmod (IntKind.i64.wrap x2) x3).toNat * 1)) = some (Value.bool b4) ∧
                    (cond (!b4) (
                        newP (w.drewN k1) #[(Value.int .i64 (Int.tmod (IntKind.i64.wrap x2) x3))] 3 fun b5 w5 =>
                        appP w5 t11p t11n t11c 1 (CellsO w5 (some ⟨b5, 0, none⟩)) 3 1 8 #[(Value.int .i64 0)] fun p1 c1 w6 =>
                        chk (decide (0 ≤ (Int.tmod (IntKind.i64.wrap x2) x3))) (
                          chk (decide ((Int.tmod (IntKind.i64.wrap x2) x3) < ((t10n : Nat) : Int))) (
                          optP t10p fun d3 =>
                          (w6.cell? (d3.add ((Int.tmod (IntKind.i64.wrap x2) x3).toNat * 1))).isSome = true ∧ w6.frozen? (d3.add ((Int.tmod (IntKind.i64.wrap x2) x3).toNat * 1)) = false ∧ ∀ w7, w7 = w6.setCell (d3.add ((Int.tmod (IntKind.i64.wrap x2) x3).toNat * 1)) (Value.bool true) →
                          (C1 t2 t3p t3n t3c t9 t10p t10n t10c p1 (t11n + 1) c1 (IntKind.i64.wrap (t12 + 1)) w7)))) (
                        C1 t2 t3p t3n t3c t9 t10p t10n t10c t11p t11n t11c (IntKind.i64.wrap (t12 + 1)) (w.drewN k1))))))))))) (
      stopcocklaw16_StrandOnce.k1 t2 t9 t10p t10n t10c t11p t11n t11c w R)) (
    stopcocklaw16_StrandOnce.k1 t2 t9 t10p t10n t10c t11p t11n t11c w R)
def stopcocklaw16_StrandOnce.l1 (t2 : Int) (t3p : Option Addr) (t3n : Nat) (t3c : Nat) (t9 : Nat) (t10p : Option Addr) (t10n : Nat) (t10c : Nat) (t11p : Option Addr) (t11n : Nat) (t11c : Nat) (t12 : Int) (w : World) (R : Ending → World → Prop) : Prop :=
  ∃ (I : Int → Option Addr → Nat → Nat → Nat → Option Addr → Nat → Nat → Option Addr → Nat → Nat → Int → World → Prop) (m : Int → Option Addr → Nat → Nat → Nat → Option Addr → Nat → Nat → Option Addr → Nat → Nat → Int → World → Nat), I t2 t3p t3n t3c t9 t10p t10n t10c t11p t11n t11c t12 w ∧
  ∀ (t2 : Int) (t3p : Option Addr) (t3n : Nat) (t3c : Nat) (t9 : Nat) (t10p : Option Addr) (t10n : Nat) (t10c : Nat) (t11p : Option Addr) (t11n : Nat) (t11c : Nat) (t12 : Int) (w : World), I t2 t3p t3n t3c t9 t10p t10n t10c t11p t11n t11c t12 w →
  stopcocklaw16_StrandOnce.b1 t2 t3p t3n t3c t9 t10p t10n t10c t11p t11n t11c t12 w R (fun t2' t3p' t3n' t3c' t9' t10p' t10n' t10c' t11p' t11n' t11c' t12' w' => I t2' t3p' t3n' t3c' t9' t10p' t10n' t10c' t11p' t11n' t11c' t12' w' ∧ m t2' t3p' t3n' t3c' t9' t10p' t10n' t10c' t11p' t11n' t11c' t12' w' < m t2 t3p t3n t3c t9 t10p t10n t10c t11p t11n t11c t12 w)
def stopcocklaw16_StrandOnce.main (a0 : Int) (a1 : Int) (a2 : Int) (a3p : Option Addr) (a3n : Nat) (a3c : Nat) (w : World) (R : Ending → World → Prop) : Prop :=
  newP w #[(Value.int .i64 0), (Value.int .i64 0)] 23 fun b1 w1 =>
  Wr w1 (⟨b1, 0, none⟩ : Addr) [(Value.int .i64 (IntKind.i64.wrap (6 + (IntKind.i64.wrap (Int.tmod a0 19))))), (Value.int .i64 (IntKind.i64.wrap (2 + (IntKind.i64.wrap (Int.tmod a1 15)))))] ∧ ∀ w2, w2 = w1.setCells (⟨b1, 0, none⟩ : Addr).block (⟨b1, 0, none⟩ : Addr).off [(Value.int .i64 (IntKind.i64.wrap (6 + (IntKind.i64.wrap (Int.tmod a0 19))))), (Value.int .i64 (IntKind.i64.wrap (2 + (IntKind.i64.wrap (Int.tmod a1 15)))))] →
  (∃ (x1 : Int), w2.cell? (⟨b1, 0, none⟩ : Addr) = some (Value.int .i64 x1) ∧
    (chk (decide (0 ≤ x1)) (
        chk (decide (x1 ≤ x1)) (
          chk (decide ((1 : Int) * x1 ≤ 281474976710656 ∧ x1 ≤ 9223372036854775807)) (
            newP w2 (madeCells #[(Value.bool false)] (x1.toNat * 1)) 4 fun b2 w3 =>
            newP w3 #[] 3 fun b3 w4 =>
            stopcocklaw16_StrandOnce.l1 a2 a3p a3n a3c b1 (some ⟨b2, 0, none⟩) x1.toNat x1.toNat (some ⟨b3, 0, none⟩) 0 0 0 w4 R)))))
abbrev stopcocklaw16_StrandOnce.C (a0 : Int) (a1 : Int) (a2 : Int) (a3p : Option Addr) (a3n : Nat) (a3c : Nat) (w : World) (R : Ending → World → Prop) : Prop := Calls Try.prog 4 #[(Value.int .u8 a0), (Value.int .u8 a1), (Value.int .u8 a2), (Value.slice a3p a3n a3c)] w R
noncomputable def stopcocklaw16_StrandOnce.code : Code := (Try.f4.body).getD .skip
noncomputable def stopcocklaw16_StrandOnce.sk (R : Ending → World → Prop) : Sk := (.seq .leaf (.seq .leaf (.seq .leaf (.seq .leaf (.cut [(2, .int .u8), (9, .blk), (10, .slice), (11, .slice)] (fun (t2 : Int) (t9 : Nat) (t10p : Option Addr) (t10n : Nat) (t10c : Nat) (t11p : Option Addr) (t11n : Nat) (t11c : Nat) (w : World) => stopcocklaw16_StrandOnce.k1 t2 t9 t10p t10n t10c t11p t11n t11c w R) (.seq .leaf (.block (.loop [(2, .int .u8), (3, .slice), (9, .blk), (10, .slice), (11, .slice), (12, .int .i64)] (fun (t2 : Int) (t3p : Option Addr) (t3n : Nat) (t3c : Nat) (t9 : Nat) (t10p : Option Addr) (t10n : Nat) (t10c : Nat) (t11p : Option Addr) (t11n : Nat) (t11c : Nat) (t12 : Int) (w : World) => stopcocklaw16_StrandOnce.l1 t2 t3p t3n t3c t9 t10p t10n t10c t11p t11n t11c t12 w R) (fun (C1 : Int → Option Addr → Nat → Nat → Nat → Option Addr → Nat → Nat → Option Addr → Nat → Nat → Int → World → Prop) => .leaf)))) (.seq .leaf (.seq .leaf (.seq .leaf (.seq .leaf (.cut [(9, .blk), (10, .slice), (14, .ptr), (16, .int .i64), (17, .int .i64)] (fun (t9 : Nat) (t10p : Option Addr) (t10n : Nat) (t10c : Nat) (t14 : Option Addr) (t16 : Int) (t17 : Int) (w : World) => stopcocklaw16_StrandOnce.k2 t9 t10p t10n t10c t14 t16 t17 w R) .leaf (.seq .leaf (.seq (.seq .leaf (.block (.loop [(9, .blk), (10, .slice), (14, .ptr), (16, .int .i64), (17, .int .i64), (18, .slice), (19, .int .i64)] (fun (t9 : Nat) (t10p : Option Addr) (t10n : Nat) (t10c : Nat) (t14 : Option Addr) (t16 : Int) (t17 : Int) (t18p : Option Addr) (t18n : Nat) (t18c : Nat) (t19 : Int) (w : World) => stopcocklaw16_StrandOnce.l2 t9 t10p t10n t10c t14 t16 t17 t18p t18n t18c t19 w R) (fun (C2 : Nat → Option Addr → Nat → Nat → Option Addr → Int → Int → Option Addr → Nat → Nat → Int → World → Prop) => .leaf)))) .leaf))))))))))))
def stopcocklaw16_StrandOnce.owed (R : Ending → World → Prop) : Prop :=
  (∀ (t2 : Int) (t3p : Option Addr) (t3n : Nat) (t3c : Nat) (t9 : Nat) (t10p : Option Addr) (t10n : Nat) (t10c : Nat) (t11p : Option Addr) (t11n : Nat) (t11c : Nat) (t12 : Int) (w : World), stopcocklaw16_StrandOnce.l1 t2 t3p t3n t3c t9 t10p t10n t10c t11p t11n t11c t12 w R → stopcocklaw16_StrandOnce.l1 t2 t3p t3n t3c t9 t10p t10n t10c t11p t11n t11c t12 w R) ∧ (∀ (C1 : Int → Option Addr → Nat → Nat → Nat → Option Addr → Nat → Nat → Option Addr → Nat → Nat → Int → World → Prop), True) ∧ (∀ (t2 : Int) (t9 : Nat) (t10p : Option Addr) (t10n : Nat) (t10c : Nat) (t11p : Option Addr) (t11n : Nat) (t11c : Nat) (w : World), stopcocklaw16_StrandOnce.k1 t2 t9 t10p t10n t10c t11p t11n t11c w R → stopcocklaw16_StrandOnce.k1 t2 t9 t10p t10n t10c t11p t11n t11c w R) ∧ (∀ (t9 : Nat) (t10p : Option Addr) (t10n : Nat) (t10c : Nat) (t14 : Option Addr) (t16 : Int) (t17 : Int) (w : World), stopcocklaw16_StrandOnce.k2 t9 t10p t10n t10c t14 t16 t17 w R → stopcocklaw16_StrandOnce.k2 t9 t10p t10n t10c t14 t16 t17 w R) ∧ (∀ (t9 : Nat) (t10p : Option Addr) (t10n : Nat) (t10c : Nat) (t14 : Option Addr) (t16 : Int) (t17 : Int) (t18p : Option Addr) (t18n : Nat) (t18c : Nat) (t19 : Int) (w : World), stopcocklaw16_StrandOnce.l2 t9 t10p t10n t10c t14 t16 t17 t18p t18n t18c t19 w R → stopcocklaw16_StrandOnce.l2 t9 t10p t10n t10c t14 t16 t17 t18p t18n t18c t19 w R) ∧ (∀ (C2 : Nat → Option Addr → Nat → Nat → Option Addr → Int → Int → Option Addr → Nat → Nat → Int → World → Prop), True) ∧ True
theorem stopcocklaw16_StrandOnce.pays (R : Ending → World → Prop) : stopcocklaw16_StrandOnce.owed R := ⟨(fun _ _ _ _ _ _ _ _ _ _ _ _ _ h => h), (fun _ => trivial), (fun _ _ _ _ _ _ _ _ _ h => h), (fun _ _ _ _ _ _ _ _ h => h), (fun _ _ _ _ _ _ _ _ _ _ _ _ h => h), (fun _ => trivial), trivial⟩
set_option maxRecDepth 100000 in
theorem stopcocklaw16_StrandOnce.ok {a0 : Int} {a1 : Int} {a2 : Int} {a3p : Option Addr} {a3n : Nat} {a3c : Nat} {w : World} {R : Ending → World → Prop} (h : stopcocklaw16_StrandOnce.main a0 a1 a2 a3p a3n a3c w R) : stopcocklaw16_StrandOnce.C a0 a1 a2 a3p a3n a3c w R :=
  ev_ok cxok (c := cx) Try.func4 (code := stopcocklaw16_StrandOnce.code) (by kernel_rfl) [.tmp 8] (by kernel_rfl) 155 (by kernel_rfl) (stopcocklaw16_StrandOnce.sk R) (args := [(Value.int .u8 a0), (Value.int .u8 a1), (Value.int .u8 a2), (Value.slice a3p a3n a3c)]) (Nat.le_of_ble_eq_true rfl) (by kernel_rfl) (o := stopcocklaw16_StrandOnce.owed R) (by kernel_rfl) (stopcocklaw16_StrandOnce.pays R) h

/-! ### stopcock/stopcockref01.Flat: function 19 -/
def stopcockref01_Flat.main (a0r : Nat) (a0m : Nat) (a1 : Int) (w : World) (R : Ending → World → Prop) : Prop :=
  cond (decide (a1 < 1)) (
    R (.returned (Value.tuple #[(Value.int .i64 0), (Value.int .i64 1)])) w) (
    cond (decide (a1 > 16)) (
      R (.returned (Value.tuple #[(Value.int .i64 0), (Value.int .i64 1)])) w) (
      callP Try.prog 29 #[(Value.complex .f64 a0r a0m)] w (fun v1 w1 =>
        dT v1 fun vs1 =>
        optP (vs1[0]?) fun v2 =>
        dI .i64 v2 fun x1 =>
        optP (vs1[1]?) fun v3 =>
        dI .i64 v3 fun x2 =>
        optP (vs1[2]?) fun v4 =>
        dI .i64 v4 fun x3 =>
        cond (x3 != 0) (
          R (.returned (Value.tuple #[(Value.int .i64 0), (Value.int .i64 x3)])) w1) (
          cond (decide (x2 ≥ a1)) (
            R (.returned (Value.tuple #[(Value.int .i64 0), (Value.int .i64 5)])) w1) (
            R (.returned (Value.tuple #[(Value.int .i64 (IntKind.i64.wrap ((IntKind.i64.wrap (x1 * a1)) + x2))), (Value.int .i64 0)])) w1))) (fun ch w2 => R (.panicked ch) w2)))
abbrev stopcockref01_Flat.C (a0r : Nat) (a0m : Nat) (a1 : Int) (w : World) (R : Ending → World → Prop) : Prop := Calls Try.prog 19 #[(Value.complex .f64 a0r a0m), (Value.int .i64 a1)] w R
noncomputable def stopcockref01_Flat.code : Code := (Try.f19.body).getD .skip
noncomputable def stopcockref01_Flat.sk (R : Ending → World → Prop) : Sk := .leaf
def stopcockref01_Flat.owed (R : Ending → World → Prop) : Prop :=
  True
theorem stopcockref01_Flat.pays (R : Ending → World → Prop) : stopcockref01_Flat.owed R := trivial
set_option maxRecDepth 100000 in
theorem stopcockref01_Flat.ok {a0r : Nat} {a0m : Nat} {a1 : Int} {w : World} {R : Ending → World → Prop} (h : stopcockref01_Flat.main a0r a0m a1 w R) : stopcockref01_Flat.C a0r a0m a1 w R :=
  ev_ok cxok (c := cx) Try.func19 (code := stopcockref01_Flat.code) (by kernel_rfl) [.tmp 4, .tmp 5] (by kernel_rfl) 32 (by kernel_rfl) (stopcockref01_Flat.sk R) (args := [(Value.complex .f64 a0r a0m), (Value.int .i64 a1)]) (Nat.le_of_ble_eq_true rfl) (by kernel_rfl) (o := stopcockref01_Flat.owed R) (by kernel_rfl) (stopcockref01_Flat.pays R) h

/-! ### stopcock/stopcockref01.Parts: function 29 -/
def stopcockref01_Parts.main (a0r : Nat) (a0m : Nat) (w : World) (R : Ending → World → Prop) : Prop :=
  callP Try.prog 36 #[(Value.float .f64 a0r), (Value.int .i64 24)] w (fun v1 w1 =>
    dI .i64 v1 fun x1 =>
    callP Try.prog 36 #[(Value.float .f64 a0m), (Value.int .i64 16)] w1 (fun v2 w3 =>
      dI .i64 v2 fun x2 =>
      cond (decide (x1 < 0)) (
        R (.returned (Value.tuple #[(Value.int .i64 0), (Value.int .i64 0), (Value.int .i64 2)])) w3) (
        cond (decide (x2 < 0)) (
          R (.returned (Value.tuple #[(Value.int .i64 0), (Value.int .i64 0), (Value.int .i64 2)])) w3) (
          R (.returned (Value.tuple #[(Value.int .i64 x1), (Value.int .i64 x2), (Value.int .i64 0)])) w3))) (fun ch w4 => R (.panicked ch) w4)) (fun ch w2 => R (.panicked ch) w2)
abbrev stopcockref01_Parts.C (a0r : Nat) (a0m : Nat) (w : World) (R : Ending → World → Prop) : Prop := Calls Try.prog 29 #[(Value.complex .f64 a0r a0m)] w R
noncomputable def stopcockref01_Parts.code : Code := (Try.f29.body).getD .skip
noncomputable def stopcockref01_Parts.sk (R : Ending → World → Prop) : Sk := .leaf
def stopcockref01_Parts.owed (R : Ending → World → Prop) : Prop :=
  True
theorem stopcockref01_Parts.pays (R : Ending → World → Prop) : stopcockref01_Parts.owed R := trivial
set_option maxRecDepth 100000 in
theorem stopcockref01_Parts.ok {a0r : Nat} {a0m : Nat} {w : World} {R : Ending → World → Prop} (h : stopcockref01_Parts.main a0r a0m w R) : stopcockref01_Parts.C a0r a0m w R :=
  ev_ok cxok (c := cx) Try.func29 (code := stopcockref01_Parts.code) (by kernel_rfl) [.tmp 2, .tmp 3, .tmp 4] (by kernel_rfl) 21 (by kernel_rfl) (stopcockref01_Parts.sk R) (args := [(Value.complex .f64 a0r a0m)]) (Nat.le_of_ble_eq_true rfl) (by kernel_rfl) (o := stopcockref01_Parts.owed R) (by kernel_rfl) (stopcockref01_Parts.pays R) h

/-! ### stopcock/stopcockref01.part: function 36 -/
def stopcockref01_part.b1 (t0 : Nat) (t1 : Int) (t5 : Int) (w : World) (R : Ending → World → Prop) (C1 : Nat → Int → Int → World → Prop) : Prop :=
  cond (decide (t5 < t1)) (
    cond (fCmp .eql t0 (FloatKind.f64.nearest t5)) (
      R (.returned (Value.int .i64 t5)) w) (
      C1 t0 t1 (IntKind.i64.wrap (t5 + 1)) w)) (
    R (.returned (Value.int .i64 (-1))) w)
def stopcockref01_part.l1 (t0 : Nat) (t1 : Int) (t5 : Int) (w : World) (R : Ending → World → Prop) : Prop :=
  ∃ (I : Nat → Int → Int → World → Prop) (m : Nat → Int → Int → World → Nat), I t0 t1 t5 w ∧
  ∀ (t0 : Nat) (t1 : Int) (t5 : Int) (w : World), I t0 t1 t5 w →
  stopcockref01_part.b1 t0 t1 t5 w R (fun t0' t1' t5' w' => I t0' t1' t5' w' ∧ m t0' t1' t5' w' < m t0 t1 t5 w)
def stopcockref01_part.main (a0 : Nat) (a1 : Int) (w : World) (R : Ending → World → Prop) : Prop :=
  stopcockref01_part.l1 a0 a1 0 w R
abbrev stopcockref01_part.C (a0 : Nat) (a1 : Int) (w : World) (R : Ending → World → Prop) : Prop := Calls Try.prog 36 #[(Value.float .f64 a0), (Value.int .i64 a1)] w R
noncomputable def stopcockref01_part.code : Code := (Try.f36.body).getD .skip
noncomputable def stopcockref01_part.sk (R : Ending → World → Prop) : Sk := (.seq .leaf (.seq (.seq .leaf (.block (.loop [(0, .flt), (1, .int .i64), (5, .int .i64)] (fun (t0 : Nat) (t1 : Int) (t5 : Int) (w : World) => stopcockref01_part.l1 t0 t1 t5 w R) (fun (C1 : Nat → Int → Int → World → Prop) => .leaf)))) .leaf))
def stopcockref01_part.owed (R : Ending → World → Prop) : Prop :=
  (∀ (t0 : Nat) (t1 : Int) (t5 : Int) (w : World), stopcockref01_part.l1 t0 t1 t5 w R → stopcockref01_part.l1 t0 t1 t5 w R) ∧ (∀ (C1 : Nat → Int → Int → World → Prop), True) ∧ True
theorem stopcockref01_part.pays (R : Ending → World → Prop) : stopcockref01_part.owed R := ⟨(fun _ _ _ _ h => h), (fun _ => trivial), trivial⟩
set_option maxRecDepth 100000 in
theorem stopcockref01_part.ok {a0 : Nat} {a1 : Int} {w : World} {R : Ending → World → Prop} (h : stopcockref01_part.main a0 a1 w R) : stopcockref01_part.C a0 a1 w R :=
  ev_ok cxok (c := cx) Try.func36 (code := stopcockref01_part.code) (by kernel_rfl) [.tmp 4] (by kernel_rfl) 16 (by kernel_rfl) (stopcockref01_part.sk R) (args := [(Value.float .f64 a0), (Value.int .i64 a1)]) (Nat.le_of_ble_eq_true rfl) (by kernel_rfl) (o := stopcockref01_part.owed R) (by kernel_rfl) (stopcockref01_part.pays R) h

/-! ### stopcock/stopcocklaw16.StrandNone: function 5 -/
def stopcocklaw16_StrandNone.main (a0 : Int) (w : World) (R : Ending → World → Prop) : Prop :=
  callP Try.prog 10 #[(Value.pointer none), (Value.int .i64 a0)] w (fun v1 w1 =>
    dT v1 fun vs1 =>
    optP (vs1[0]?) fun v2 =>
    dC v2 fun r1 m1 =>
    optP (vs1[1]?) fun v3 =>
    dI .i64 v3 fun x1 =>
    callP Try.prog 16 #[(Value.pointer none)] w1 (fun v4 w3 =>
      dT v4 fun vs2 =>
      optP (vs2[0]?) fun v5 =>
      dS v5 fun p1 n1 c1 =>
      optP (vs2[1]?) fun v6 =>
      dI .i64 v6 fun x2 =>
      callP Try.prog 9 #[] w3 (fun v7 w5 =>
        dB v7 fun b1 =>
        cond b1 (
          cond (x1 == 1) (
            callP Try.prog 14 #[(Value.pointer none), (Value.int .i64 a0)] w5 (fun v8 w7 =>
              dI .i64 v8 fun x3 =>
              cond (x3 == x1) (
                callP Try.prog 12 #[(Value.pointer none), (Value.int .i64 a0)] w7 (fun v9 w9 =>
                  dB v9 fun b2 =>
                  cond (!b2) (
                    cond (((n1 : Nat) : Int) == 0) (
                      R (.returned (Value.bool (x2 == (-1)))) w9) (
                      R (.returned (Value.bool false)) w9)) (
                    R (.returned (Value.bool false)) w9)) (fun ch w10 => R (.panicked ch) w10)) (
                R (.returned (Value.bool false)) w7)) (fun ch w8 => R (.panicked ch) w8)) (
            R (.returned (Value.bool false)) w5)) (
          R (.returned (Value.bool false)) w5)) (fun ch w6 => R (.panicked ch) w6)) (fun ch w4 => R (.panicked ch) w4)) (fun ch w2 => R (.panicked ch) w2)
abbrev stopcocklaw16_StrandNone.C (a0 : Int) (w : World) (R : Ending → World → Prop) : Prop := Calls Try.prog 5 #[(Value.int .i64 a0)] w R
noncomputable def stopcocklaw16_StrandNone.code : Code := (Try.f5.body).getD .skip
noncomputable def stopcocklaw16_StrandNone.sk (R : Ending → World → Prop) : Sk := .leaf
def stopcocklaw16_StrandNone.owed (R : Ending → World → Prop) : Prop :=
  True
theorem stopcocklaw16_StrandNone.pays (R : Ending → World → Prop) : stopcocklaw16_StrandNone.owed R := trivial
set_option maxRecDepth 100000 in
theorem stopcocklaw16_StrandNone.ok {a0 : Int} {w : World} {R : Ending → World → Prop} (h : stopcocklaw16_StrandNone.main a0 w R) : stopcocklaw16_StrandNone.C a0 w R :=
  ev_ok cxok (c := cx) Try.func5 (code := stopcocklaw16_StrandNone.code) (by kernel_rfl) [.tmp 2] (by kernel_rfl) 46 (by kernel_rfl) (stopcocklaw16_StrandNone.sk R) (args := [(Value.int .i64 a0)]) (Nat.le_of_ble_eq_true rfl) (by kernel_rfl) (o := stopcocklaw16_StrandNone.owed R) (by kernel_rfl) (stopcocklaw16_StrandNone.pays R) h

/-! ### stopcock/stopcocklaw16.StrandFrees: function 6 -/
def stopcocklaw16_StrandFrees.k2 (t6 : Option Addr) (w : World) (R : Ending → World → Prop) : Prop :=
  callP Try.prog 10 #[(Value.pointer t6), (Value.int .i64 0)] w (fun v21 w28 =>
    dT v21 fun vs6 =>
    optP (vs6[0]?) fun v22 =>
    dC v22 fun r7 m7 =>
    optP (vs6[1]?) fun v23 =>
    dI .i64 v23 fun x12 =>
    R (.returned (Value.bool (x12 == 9))) w28) (fun ch w29 => R (.panicked ch) w29)
def stopcocklaw16_StrandFrees.b2 (t5 : Nat) (t6 : Option Addr) (t10p : Option Addr) (t10n : Nat) (t10c : Nat) (t15 : Int) (w : World) (R : Ending → World → Prop) (C2 : Nat → Option Addr → Option Addr → Nat → Nat → Int → World → Prop) : Prop :=
  ∃ (x9 : Int), w.cell? (⟨t5, 0, none⟩ : Addr) = some (Value.int .i64 x9) ∧
  (cond (decide (t15 < x9)) (
      chk (decide (0 ≤ t15)) (
        chk (decide (t15 < ((t10n : Nat) : Int))) (
          optP t10p fun d5 =>
          ∃ (b6 : Bool), w.cell? (d5.add (t15.toNat * 1)) = some (Value.bool b6) ∧
          (cond (!b6) (
              C2 t5 t6 t10p t10n t10c (IntKind.i64.wrap (t15 + 1)) w) (
              callP Try.prog 10 #[(Value.pointer t6), (Value.int .i64 0)] w (fun v13 w20 =>
                dT v13 fun vs4 =>
                optP (vs4[0]?) fun v14 =>
                dC v14 fun r3 m3 =>
                optP (vs4[1]?) fun v15 =>
                dI .i64 v15 fun x10 =>
                callP Try.prog 10 #[(Value.pointer t6), (Value.int .i64 0)] w20 (fun v16 w22 =>
                  dT v16 fun vs5 =>
                  optP (vs5[0]?) fun v17 =>
                  dC v17 fun r4 m4 =>
                  optP (vs5[1]?) fun v18 =>
                  dI .i64 v18 fun x11 =>
                  cond (x10 != 0) (
                    R (.returned (Value.bool false)) w22) (
                    cond (x11 != 0) (
                      R (.returned (Value.bool false)) w22) (
                      callP Try.prog 20 #[(Value.int .i64 t15), (Value.int .i64 0)] w22 (fun v19 w24 =>
                        dC v19 fun r5 m5 =>
                        cond (!(fCmp .eql r3 r5 && fCmp .eql m3 m5)) (
                          R (.returned (Value.bool false)) w24) (
                          callP Try.prog 20 #[(Value.int .i64 t15), (Value.int .i64 1)] w24 (fun v20 w26 =>
                          dC v20 fun r6 m6 =>
                          cond (!(fCmp .eql r4 r6 && fCmp .eql m4 m6)) (
                          R (.returned (Value.bool false)) w26) (
                          C2 t5 t6 t10p t10n t10c (IntKind.i64.wrap (t15 + 1)) w26)) (fun ch w27 => R (.panicked ch) w27))) (fun ch w25 => R (.panicked ch) w25)))) (fun ch w23 => R (.panicked ch) w23)) (fun ch w21 => R (.panicked ch) w21)))))) (
      stopcocklaw16_StrandFrees.k2 t6 w R))
def stopcocklaw16_StrandFrees.l2 (t5 : Nat) (t6 : Option Addr) (t10p : Option Addr) (t10n : Nat) (t10c : Nat) (t15 : Int) (w : World) (R : Ending → World → Prop) : Prop :=
  ∃ (I : Nat → Option Addr → Option Addr → Nat → Nat → Int → World → Prop) (m : Nat → Option Addr → Option Addr → Nat → Nat → Int → World → Nat), I t5 t6 t10p t10n t10c t15 w ∧
  ∀ (t5 : Nat) (t6 : Option Addr) (t10p : Option Addr) (t10n : Nat) (t10c : Nat) (t15 : Int) (w : World), I t5 t6 t10p t10n t10c t15 w →
  stopcocklaw16_StrandFrees.b2 t5 t6 t10p t10n t10c t15 w R (fun t5' t6' t10p' t10n' t10c' t15' w' => I t5' t6' t10p' t10n' t10c' t15' w' ∧ m t5' t6' t10p' t10n' t10c' t15' w' < m t5 t6 t10p t10n t10c t15 w)
def stopcocklaw16_StrandFrees.k1 (t5 : Nat) (t6 : Option Addr) (t10p : Option Addr) (t10n : Nat) (t10c : Nat) (w : World) (R : Ending → World → Prop) : Prop :=
  chk (decide (3 < ((t10n : Nat) : Int))) (
    optP t10p fun d4 =>
    (w.cell? (d4.add 3)).isSome = true ∧ w.frozen? (d4.add 3) = false ∧ ∀ w17, w17 = w.setCell (d4.add 3) (Value.bool false) →
    (callP Try.prog 10 #[(Value.pointer t6), (Value.int .i64 0)] w17 (fun v10 w18 =>
        dT v10 fun vs3 =>
        optP (vs3[0]?) fun v11 =>
        dC v11 fun r2 m2 =>
        optP (vs3[1]?) fun v12 =>
        dI .i64 v12 fun x8 =>
        cond (x8 != 0) (
          R (.returned (Value.bool false)) w18) (
          cond (!(fCmp .eql r2 4613937818241073152 && fCmp .eql m2 4607182418800017408)) (
            R (.returned (Value.bool false)) w18) (
            stopcocklaw16_StrandFrees.l2 t5 t6 t10p t10n t10c 0 w18 R))) (fun ch w19 => R (.panicked ch) w19)))
def stopcocklaw16_StrandFrees.b1 (t1p : Option Addr) (t1n : Nat) (t1c : Nat) (t5 : Nat) (t6 : Option Addr) (t10p : Option Addr) (t10n : Nat) (t10c : Nat) (t11 : Int) (w : World) (R : Ending → World → Prop) (C1 : Option Addr → Nat → Nat → Nat → Option Addr → Option Addr → Nat → Nat → Int → World → Prop) : Prop :=
  cond (decide (t11 < ((t1n : Nat) : Int))) (
    cond (decide (t11 < 60)) (
      chk (decide (0 ≤ t11)) (
        chk (decide (t11 < ((t1n : Nat) : Int))) (
          optP t1p fun d1 =>
          ∃ (x5 : Int), w.cell? (d1.add (t11.toNat * 1)) = some (Value.int .u8 x5) ∧
          (∃ (x6 : Int), w.cell? (⟨t5, 0, none⟩ : Addr) = some (Value.int .i64 x6) ∧
            (chk (decide (x6 ≠ 0)) (
                ∀ k1 : Nat,
                chk (decide (0 ≤ (Int.tmod (IntKind.i64.wrap x5) x6))) (
                  chk (decide ((Int.tmod (IntKind.i64.wrap x5) x6) < ((t10n : Nat) : Int))) (
                    optP t10p fun d2 =>
                    ∃ (b5 : Bool), (w.drewN k1).drew.cell? (d2.add ((Int.tmod (IntKind.i64.wrap x5) x6).toNat * 1)) = some (Value.bool b5) ∧
                    (callP Try.prog 14 #[(Value.pointer t6), (Value.int .i64 (Int.tmod (IntKind.i64.wrap x5) x6))] (w.drewN k1).drew (fun v9 w14 =>
                        dI .i64 v9 fun x7 =>
                        w14.cell? (d2.add ((Int.tmod (IntKind.i64.wrap x5) x6).toNat * 1)) = some (Value.bool b5) ∧
                        (cond ((x7 == 0) == b5) (
                          R (.returned (Value.bool false)) w14) (
                          chk (decide (0 ≤ (Int.tmod (IntKind.i64.wrap x5) x6))) (
                          chk (decide ((Int.tmod (IntKind.i64.wrap x5) x6) < ((t10n : Nat) : Int))) (
                          optP t10p fun d3 =>
                          (w14.cell? (d3.add ((Int.tmod (IntKind.i64.wrap x5) x6).toNat * 1))).isSome = true ∧ w14.frozen? (d3.add ((Int.tmod (IntKind.i64.wrap x5) x6).toNat * 1)) = false ∧ ∀ w16, w16 = w14.setCell (d3.add ((Int.tmod (IntKind.i64.wrap x5) x6).toNat * 1)) (Value.bool true) →
                          (C1 t1p t1n t1c t5 t6 t10p t10n t10c (IntKind.i64.wrap (t11 + 1)) w16)))))) (fun ch w15 => R (.panicked ch) w15)))))))))) (
      stopcocklaw16_StrandFrees.k1 t5 t6 t10p t10n t10c w R)) (
    stopcocklaw16_StrandFrees.k1 t5 t6 t10p t10n t10c w R)
def stopcocklaw16_StrandFrees.l1 (t1p : Option Addr) (t1n : Nat) (t1c : Nat) (t5 : Nat) (t6 : Option Addr) (t10p : Option Addr) (t10n : Nat) (t10c : Nat) (t11 : Int) (w : World) (R : Ending → World → Prop) : Prop :=
  ∃ (I : Option Addr → Nat → Nat → Nat → Option Addr → Option Addr → Nat → Nat → Int → World → Prop) (m : Option Addr → Nat → Nat → Nat → Option Addr → Option Addr → Nat → Nat → Int → World → Nat), I t1p t1n t1c t5 t6 t10p t10n t10c t11 w ∧
  ∀ (t1p : Option Addr) (t1n : Nat) (t1c : Nat) (t5 : Nat) (t6 : Option Addr) (t10p : Option Addr) (t10n : Nat) (t10c : Nat) (t11 : Int) (w : World), I t1p t1n t1c t5 t6 t10p t10n t10c t11 w →
  stopcocklaw16_StrandFrees.b1 t1p t1n t1c t5 t6 t10p t10n t10c t11 w R (fun t1p' t1n' t1c' t5' t6' t10p' t10n' t10c' t11' w' => I t1p' t1n' t1c' t5' t6' t10p' t10n' t10c' t11' w' ∧ m t1p' t1n' t1c' t5' t6' t10p' t10n' t10c' t11' w' < m t1p t1n t1c t5 t6 t10p t10n t10c t11 w)
def stopcocklaw16_StrandFrees.main (a0 : Int) (a1p : Option Addr) (a1n : Nat) (a1c : Nat) (w : World) (R : Ending → World → Prop) : Prop :=
  newP w #[(Value.int .i64 0), (Value.int .i64 0)] 23 fun b1 w1 =>
  Wr w1 (⟨b1, 0, none⟩ : Addr) [(Value.int .i64 (IntKind.i64.wrap (6 + (IntKind.i64.wrap (Int.tmod a0 19))))), (Value.int .i64 2)] ∧ ∀ w2, w2 = w1.setCells (⟨b1, 0, none⟩ : Addr).block (⟨b1, 0, none⟩ : Addr).off [(Value.int .i64 (IntKind.i64.wrap (6 + (IntKind.i64.wrap (Int.tmod a0 19))))), (Value.int .i64 2)] →
  (∃ (cs1 : Array Value), cs1.size = 2 ∧ CellsAt w2 (⟨b1, 0, none⟩ : Addr) cs1.toList ∧
    (newP w2 #[(Value.int .i64 3)] 3 fun b2 w3 =>
      callP Try.prog 7 #[(Value.agg cs1), (Value.slice (some ⟨b2, 0, none⟩) 1 1)] w3 (fun v1 w4 =>
        dT v1 fun vs1 =>
        optP (vs1[0]?) fun v2 =>
        dP v2 fun p1 =>
        optP (vs1[1]?) fun v3 =>
        dI .i64 v3 fun x1 =>
        callP Try.prog 9 #[] w4 (fun v4 w6 =>
          dB v4 fun b3 =>
          cond (!b3) (
            R (.returned (Value.bool false)) w6) (
            cond (x1 != 0) (
              R (.returned (Value.bool false)) w6) (
              callP Try.prog 10 #[(Value.pointer p1), (Value.int .i64 0)] w6 (fun v5 w8 =>
                dT v5 fun vs2 =>
                optP (vs2[0]?) fun v6 =>
                dC v6 fun r1 m1 =>
                optP (vs2[1]?) fun v7 =>
                dI .i64 v7 fun x2 =>
                cond (x2 != 0) (
                  R (.returned (Value.bool false)) w8) (
                  cond (!(fCmp .eql r1 4613937818241073152 && fCmp .eql m1 0)) (
                    R (.returned (Value.bool false)) w8) (
                    callP Try.prog 14 #[(Value.pointer p1), (Value.int .i64 3)] w8 (fun v8 w10 =>
                      dI .i64 v8 fun x3 =>
                      cond (x3 != 12) (
                        R (.returned (Value.bool false)) w10) (
                        ∃ (x4 : Int), w10.cell? (⟨b1, 0, none⟩ : Addr) = some (Value.int .i64 x4) ∧
                        (chk (decide (0 ≤ x4)) (
                          chk (decide (x4 ≤ x4)) (
                          chk (decide ((1 : Int) * x4 ≤ 281474976710656 ∧ x4 ≤ 9223372036854775807)) (
                          newP w10 (madeCells #[(Value.bool false)] (x4.toNat * 1)) 4 fun b4 w12 =>
                          chk (decide (3 < ((x4.toNat : Nat) : Int))) (
                          (w12.cell? (⟨b4, 3, none⟩ : Addr)).isSome = true ∧ w12.frozen? (⟨b4, 3, none⟩ : Addr) = false ∧ ∀ w13, w13 = w12.setCell (⟨b4, 3, none⟩ : Addr) (Value.bool true) →
                          (stopcocklaw16_StrandFrees.l1 a1p a1n a1c b1 p1 (some ⟨b4, 0, none⟩) x4.toNat x4.toNat 0 w13 R)))))))) (fun ch w11 => R (.panicked ch) w11)))) (fun ch w9 => R (.panicked ch) w9)))) (fun ch w7 => R (.panicked ch) w7)) (fun ch w5 => R (.panicked ch) w5)))
abbrev stopcocklaw16_StrandFrees.C (a0 : Int) (a1p : Option Addr) (a1n : Nat) (a1c : Nat) (w : World) (R : Ending → World → Prop) : Prop := Calls Try.prog 6 #[(Value.int .u8 a0), (Value.slice a1p a1n a1c)] w R
noncomputable def stopcocklaw16_StrandFrees.code : Code := (Try.f6.body).getD .skip
noncomputable def stopcocklaw16_StrandFrees.sk (R : Ending → World → Prop) : Sk := (.seq .leaf (.seq .leaf (.seq .leaf (.seq .leaf (.seq .leaf (.seq .leaf (.seq .leaf (.cut [(5, .blk), (6, .ptr), (10, .slice)] (fun (t5 : Nat) (t6 : Option Addr) (t10p : Option Addr) (t10n : Nat) (t10c : Nat) (w : World) => stopcocklaw16_StrandFrees.k1 t5 t6 t10p t10n t10c w R) (.seq .leaf (.block (.loop [(1, .slice), (5, .blk), (6, .ptr), (10, .slice), (11, .int .i64)] (fun (t1p : Option Addr) (t1n : Nat) (t1c : Nat) (t5 : Nat) (t6 : Option Addr) (t10p : Option Addr) (t10n : Nat) (t10c : Nat) (t11 : Int) (w : World) => stopcocklaw16_StrandFrees.l1 t1p t1n t1c t5 t6 t10p t10n t10c t11 w R) (fun (C1 : Option Addr → Nat → Nat → Nat → Option Addr → Option Addr → Nat → Nat → Int → World → Prop) => .leaf)))) (.seq .leaf (.seq .leaf (.cut [(6, .ptr)] (fun (t6 : Option Addr) (w : World) => stopcocklaw16_StrandFrees.k2 t6 w R) (.seq .leaf (.block (.loop [(5, .blk), (6, .ptr), (10, .slice), (15, .int .i64)] (fun (t5 : Nat) (t6 : Option Addr) (t10p : Option Addr) (t10n : Nat) (t10c : Nat) (t15 : Int) (w : World) => stopcocklaw16_StrandFrees.l2 t5 t6 t10p t10n t10c t15 w R) (fun (C2 : Nat → Option Addr → Option Addr → Nat → Nat → Int → World → Prop) => .leaf)))) .leaf)))))))))))
def stopcocklaw16_StrandFrees.owed (R : Ending → World → Prop) : Prop :=
  (∀ (t1p : Option Addr) (t1n : Nat) (t1c : Nat) (t5 : Nat) (t6 : Option Addr) (t10p : Option Addr) (t10n : Nat) (t10c : Nat) (t11 : Int) (w : World), stopcocklaw16_StrandFrees.l1 t1p t1n t1c t5 t6 t10p t10n t10c t11 w R → stopcocklaw16_StrandFrees.l1 t1p t1n t1c t5 t6 t10p t10n t10c t11 w R) ∧ (∀ (C1 : Option Addr → Nat → Nat → Nat → Option Addr → Option Addr → Nat → Nat → Int → World → Prop), True) ∧ (∀ (t5 : Nat) (t6 : Option Addr) (t10p : Option Addr) (t10n : Nat) (t10c : Nat) (w : World), stopcocklaw16_StrandFrees.k1 t5 t6 t10p t10n t10c w R → stopcocklaw16_StrandFrees.k1 t5 t6 t10p t10n t10c w R) ∧ (∀ (t5 : Nat) (t6 : Option Addr) (t10p : Option Addr) (t10n : Nat) (t10c : Nat) (t15 : Int) (w : World), stopcocklaw16_StrandFrees.l2 t5 t6 t10p t10n t10c t15 w R → stopcocklaw16_StrandFrees.l2 t5 t6 t10p t10n t10c t15 w R) ∧ (∀ (C2 : Nat → Option Addr → Option Addr → Nat → Nat → Int → World → Prop), True) ∧ (∀ (t6 : Option Addr) (w : World), stopcocklaw16_StrandFrees.k2 t6 w R → stopcocklaw16_StrandFrees.k2 t6 w R) ∧ True
theorem stopcocklaw16_StrandFrees.pays (R : Ending → World → Prop) : stopcocklaw16_StrandFrees.owed R := ⟨(fun _ _ _ _ _ _ _ _ _ _ h => h), (fun _ => trivial), (fun _ _ _ _ _ _ h => h), (fun _ _ _ _ _ _ _ h => h), (fun _ => trivial), (fun _ _ h => h), trivial⟩
set_option maxRecDepth 100000 in
theorem stopcocklaw16_StrandFrees.ok {a0 : Int} {a1p : Option Addr} {a1n : Nat} {a1c : Nat} {w : World} {R : Ending → World → Prop} (h : stopcocklaw16_StrandFrees.main a0 a1p a1n a1c w R) : stopcocklaw16_StrandFrees.C a0 a1p a1n a1c w R :=
  ev_ok cxok (c := cx) Try.func6 (code := stopcocklaw16_StrandFrees.code) (by kernel_rfl) [.tmp 4] (by kernel_rfl) 149 (by kernel_rfl) (stopcocklaw16_StrandFrees.sk R) (args := [(Value.int .u8 a0), (Value.slice a1p a1n a1c)]) (Nat.le_of_ble_eq_true rfl) (by kernel_rfl) (o := stopcocklaw16_StrandFrees.owed R) (by kernel_rfl) (stopcocklaw16_StrandFrees.pays R) h

end Go.Proofs.Ythopiffhkldnhaa.G

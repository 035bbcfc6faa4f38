/- Statements of functions, and that their calls do what they say. Printed by wip/tool/dec.py. Conditions: none. -/
import Derived.Test.YticdeknmeafjcaaG0
namespace Go.Proofs.Yticdeknmeafjcaa.G
open Go.Dec
set_option linter.unusedVariables false

/-! ### slices.Index[[]int,int]: function 33 -/
def slices_Index_int_int.b1 (t0p : Option Addr) (t0n : Nat) (t0c : Nat) (t1 : Int) (t7 : Int) (t8 : Int) (w : World) (R : Ending → World → Prop) (C1 : Option Addr → Nat → Nat → Int → Int → Int → World → Prop) : Prop :=
  cond (decide (t8 < t7)) (
    chk (decide (0 ≤ t8)) (
      chk (decide (t8 < ((t0n : Nat) : Int))) (
        optP t0p fun d1 =>
        ∃ (x1 : Int), w.cell? (d1.add (t8.toNat * 1)) = some (Value.int .i64 x1) ∧
        (cond (t1 == x1) (
            R (.returned (Value.int .i64 t8)) w) (
            C1 t0p t0n t0c t1 t7 (IntKind.i64.wrap (t8 + 1)) w))))) (
    R (.returned (Value.int .i64 (-1))) w)
def slices_Index_int_int.l1 (t0p : Option Addr) (t0n : Nat) (t0c : Nat) (t1 : Int) (t7 : Int) (t8 : Int) (w : World) (R : Ending → World → Prop) : Prop :=
  ∃ (I : Option Addr → Nat → Nat → Int → Int → Int → World → Prop) (m : Option Addr → Nat → Nat → Int → Int → Int → World → Nat), I t0p t0n t0c t1 t7 t8 w ∧
  ∀ (t0p : Option Addr) (t0n : Nat) (t0c : Nat) (t1 : Int) (t7 : Int) (t8 : Int) (w : World), I t0p t0n t0c t1 t7 t8 w →
  slices_Index_int_int.b1 t0p t0n t0c t1 t7 t8 w R (fun t0p' t0n' t0c' t1' t7' t8' w' => I t0p' t0n' t0c' t1' t7' t8' w' ∧ m t0p' t0n' t0c' t1' t7' t8' w' < m t0p t0n t0c t1 t7 t8 w)
def slices_Index_int_int.main (a0p : Option Addr) (a0n : Nat) (a0c : Nat) (a1 : Int) (w : World) (R : Ending → World → Prop) : Prop :=
  slices_Index_int_int.l1 a0p a0n a0c a1 ((a0n : Nat) : Int) 0 w R
abbrev slices_Index_int_int.C (a0p : Option Addr) (a0n : Nat) (a0c : Nat) (a1 : Int) (w : World) (R : Ending → World → Prop) : Prop := Calls Try.prog 33 #[(Value.slice a0p a0n a0c), (Value.int .i64 a1)] w R
noncomputable def slices_Index_int_int.code : Code := (Try.f33.body).getD .skip
noncomputable def slices_Index_int_int.sk (R : Ending → World → Prop) : Sk := (.seq .leaf (.seq (.seq .leaf (.block (.loop [(0, .slice), (1, .int .i64), (7, .int .i64), (8, .int .i64)] (fun (t0p : Option Addr) (t0n : Nat) (t0c : Nat) (t1 : Int) (t7 : Int) (t8 : Int) (w : World) => slices_Index_int_int.l1 t0p t0n t0c t1 t7 t8 w R) (fun (C1 : Option Addr → Nat → Nat → Int → Int → Int → World → Prop) => .leaf)))) .leaf))
def slices_Index_int_int.owed (R : Ending → World → Prop) : Prop :=
  (∀ (t0p : Option Addr) (t0n : Nat) (t0c : Nat) (t1 : Int) (t7 : Int) (t8 : Int) (w : World), slices_Index_int_int.l1 t0p t0n t0c t1 t7 t8 w R → slices_Index_int_int.l1 t0p t0n t0c t1 t7 t8 w R) ∧ (∀ (C1 : Option Addr → Nat → Nat → Int → Int → Int → World → Prop), True) ∧ True
theorem slices_Index_int_int.pays (R : Ending → World → Prop) : slices_Index_int_int.owed R := ⟨(fun _ _ _ _ _ _ _ h => h), (fun _ => trivial), trivial⟩
set_option maxRecDepth 100000 in
theorem slices_Index_int_int.ok {a0p : Option Addr} {a0n : Nat} {a0c : Nat} {a1 : Int} {w : World} {R : Ending → World → Prop} (h : slices_Index_int_int.main a0p a0n a0c a1 w R) : slices_Index_int_int.C a0p a0n a0c a1 w R :=
  ev_ok cxok (c := cx) Try.func33 (code := slices_Index_int_int.code) (by kernel_rfl) [.tmp 4] (by kernel_rfl) 19 (by kernel_rfl) (slices_Index_int_int.sk R) (args := [(Value.slice a0p a0n a0c), (Value.int .i64 a1)]) (Nat.le_of_ble_eq_true rfl) (by kernel_rfl) (o := slices_Index_int_int.owed R) (by kernel_rfl) (slices_Index_int_int.pays R) h

/-! ### stopcock/stopcockref05.has: function 34 -/
def stopcockref05_has.b1 (t0p : Option Addr) (t0n : Nat) (t0c : Nat) (t1 : Int) (t5 : Int) (w : World) (R : Ending → World → Prop) (C1 : Option Addr → Nat → Nat → Int → Int → World → Prop) : Prop :=
  cond (decide (t5 < ((t0n : Nat) : Int))) (
    chk (decide (0 ≤ t5)) (
      chk (decide (t5 < ((t0n : Nat) : Int))) (
        optP t0p fun d1 =>
        ∃ (x1 : Int), w.cell? (d1.add (t5.toNat * 1)) = some (Value.int .i64 x1) ∧
        (cond (x1 == t1) (
            R (.returned (Value.bool true)) w) (
            C1 t0p t0n t0c t1 (IntKind.i64.wrap (t5 + 1)) w))))) (
    R (.returned (Value.bool false)) w)
def stopcockref05_has.l1 (t0p : Option Addr) (t0n : Nat) (t0c : Nat) (t1 : Int) (t5 : Int) (w : World) (R : Ending → World → Prop) : Prop :=
  ∃ (I : Option Addr → Nat → Nat → Int → Int → World → Prop) (m : Option Addr → Nat → Nat → Int → Int → World → Nat), I t0p t0n t0c t1 t5 w ∧
  ∀ (t0p : Option Addr) (t0n : Nat) (t0c : Nat) (t1 : Int) (t5 : Int) (w : World), I t0p t0n t0c t1 t5 w →
  stopcockref05_has.b1 t0p t0n t0c t1 t5 w R (fun t0p' t0n' t0c' t1' t5' w' => I t0p' t0n' t0c' t1' t5' w' ∧ m t0p' t0n' t0c' t1' t5' w' < m t0p t0n t0c t1 t5 w)
def stopcockref05_has.main (a0p : Option Addr) (a0n : Nat) (a0c : Nat) (a1 : Int) (w : World) (R : Ending → World → Prop) : Prop :=
  stopcockref05_has.l1 a0p a0n a0c a1 0 w R
abbrev stopcockref05_has.C (a0p : Option Addr) (a0n : Nat) (a0c : Nat) (a1 : Int) (w : World) (R : Ending → World → Prop) : Prop := Calls Try.prog 34 #[(Value.slice a0p a0n a0c), (Value.int .i64 a1)] w R
noncomputable def stopcockref05_has.code : Code := (Try.f34.body).getD .skip
noncomputable def stopcockref05_has.sk (R : Ending → World → Prop) : Sk := (.seq .leaf (.seq (.seq .leaf (.block (.loop [(0, .slice), (1, .int .i64), (5, .int .i64)] (fun (t0p : Option Addr) (t0n : Nat) (t0c : Nat) (t1 : Int) (t5 : Int) (w : World) => stopcockref05_has.l1 t0p t0n t0c t1 t5 w R) (fun (C1 : Option Addr → Nat → Nat → Int → Int → World → Prop) => .leaf)))) .leaf))
def stopcockref05_has.owed (R : Ending → World → Prop) : Prop :=
  (∀ (t0p : Option Addr) (t0n : Nat) (t0c : Nat) (t1 : Int) (t5 : Int) (w : World), stopcockref05_has.l1 t0p t0n t0c t1 t5 w R → stopcockref05_has.l1 t0p t0n t0c t1 t5 w R) ∧ (∀ (C1 : Option Addr → Nat → Nat → Int → Int → World → Prop), True) ∧ True
theorem stopcockref05_has.pays (R : Ending → World → Prop) : stopcockref05_has.owed R := ⟨(fun _ _ _ _ _ _ h => h), (fun _ => trivial), trivial⟩
set_option maxRecDepth 100000 in
theorem stopcockref05_has.ok {a0p : Option Addr} {a0n : Nat} {a0c : Nat} {a1 : Int} {w : World} {R : Ending → World → Prop} (h : stopcockref05_has.main a0p a0n a0c a1 w R) : stopcockref05_has.C a0p a0n a0c a1 w R :=
  ev_ok cxok (c := cx) Try.func34 (code := stopcockref05_has.code) (by kernel_rfl) [.tmp 4] (by kernel_rfl) 18 (by kernel_rfl) (stopcockref05_has.sk R) (args := [(Value.slice a0p a0n a0c), (Value.int .i64 a1)]) (Nat.le_of_ble_eq_true rfl) (by kernel_rfl) (o := stopcockref05_has.owed R) (by kernel_rfl) (stopcockref05_has.pays R) h

/-! ### stopcock/stopcocklaw05.BasinLasts: function 3 -/
def stopcocklaw05_BasinLasts.b3 (t7 : Option Addr) (t9p : Option Addr) (t9n : Nat) (t9c : Nat) (t11p : Option Addr) (t11n : Nat) (t11c : Nat) (t13 : Int) (w : World) (R : Ending → World → Prop) (C3 : Option Addr → Option Addr → Nat → Nat → Option Addr → Nat → Nat → Int → World → Prop) : Prop :=
  cond (decide (t13 < 20)) (
    callP Try.prog 14 #[(Value.pointer t7), (Value.int .i64 t13)] w (fun v11 w23 =>
      dT v11 fun vs3 =>
      optP (vs3[0]?) fun v12 =>
      dS v12 fun p4 n3 c3 =>
      optP (vs3[1]?) fun v13 =>
      dI .i64 v13 fun x9 =>
      cond (x9 != 0) (
        ∀ k1 : Nat,
        R (.returned (Value.bool false)) (w23.drewN k1)) (
        cond (((n3 : Nat) : Int) != 64) (
          ∀ k1 : Nat,
          R (.returned (Value.bool false)) (w23.drewN k1)) (
          chk (decide (0 < ((n3 : Nat) : Int))) (
            optP p4 fun d7 =>
            ∃ (x10 : Int), w23.cell? d7 = some (Value.int .u8 x10) ∧
            (chk (decide (63 < ((n3 : Nat) : Int))) (
                optP p4 fun d8 =>
                ∃ (x11 : Int), w23.cell? (d8.add 63) = some (Value.int .u8 x11) ∧
                (cond (x10 != x11) (
                    ∀ k1 : Nat,
                    R (.returned (Value.bool false)) (w23.drewN k1)) (
                    chk (decide (0 < ((n3 : Nat) : Int))) (
                      optP p4 fun d9 =>
                      ∃ (x12 : Int), w23.cell? d9 = some (Value.int .u8 x12) ∧
                      (chk (decide (0 ≤ t13)) (
                          chk (decide (t13 < ((t9n : Nat) : Int))) (
                          optP t9p fun d10 =>
                          ∃ (x13 : Int), w23.cell? (d10.add (t13.toNat * 1)) = some (Value.int .u8 x13) ∧
                          (cond (x12 != x13) (
                          chk (decide (0 ≤ t13)) (
                          chk (decide (t13 < ((t11n : Nat) : Int))) (
                          optP t11p fun d11 =>
                          ∃ (b6 : Bool), w23.cell? (d11.add (t13.toNat * 1)) = some (Value.bool b6) ∧
                          (cond b6 (
                          chk (decide (0 < ((n3 : Nat) : Int))) (
                          optP p4 fun d12 =>
                          ∃ (x14 : Int), w23.cell? d12 = some (Value.int .u8 x14) ∧
                          (∀ k1 : Nat,
                          cond (!(decide (x14 ≥ 100))) (
                          R (.returned (Value.bool false)) (w23.drewN k1)) (
                          C3 t7 t9p t9n t9c t11p t11n t11c (IntKind.i64.wrap (t13 + 1)) (w23.drewN k1))))) (
                          ∀ k1 : Nat,
                          R (.returned (Value.bool false)) (w23.drewN k1)))))) (
                          ∀ k1 : Nat,
                          C3 t7 t9p t9n t9c t11p t11n t11c (IntKind.i64.wrap (t13 + 1)) (w23.drewN k1))))))))))))))) (fun ch w24 => R (.panicked ch) w24)) (
    callP Try.prog 15 #[(Value.pointer t7)] w (fun v14 w25 =>
      dI .i64 v14 fun x15 =>
      R (.returned (Value.bool (x15 == 0))) w25) (fun ch w26 => R (.panicked ch) w26))
def stopcocklaw05_BasinLasts.l3 (t7 : Option Addr) (t9p : Option Addr) (t9n : Nat) (t9c : Nat) (t11p : Option Addr) (t11n : Nat) (t11c : Nat) (t13 : Int) (w : World) (R : Ending → World → Prop) : Prop :=
  ∃ (I : Option Addr → Option Addr → Nat → Nat → Option Addr → Nat → Nat → Int → World → Prop) (m : Option Addr → Option Addr → Nat → Nat → Option Addr → Nat → Nat → Int → World → Nat), I t7 t9p t9n t9c t11p t11n t11c t13 w ∧
  ∀ (t7 : Option Addr) (t9p : Option Addr) (t9n : Nat) (t9c : Nat) (t11p : Option Addr) (t11n : Nat) (t11c : Nat) (t13 : Int) (w : World), I t7 t9p t9n t9c t11p t11n t11c t13 w →
  stopcocklaw05_BasinLasts.b3 t7 t9p t9n t9c t11p t11n t11c t13 w R (fun t7' t9p' t9n' t9c' t11p' t11n' t11c' t13' w' => I t7' t9p' t9n' t9c' t11p' t11n' t11c' t13' w' ∧ m t7' t9p' t9n' t9c' t11p' t11n' t11c' t13' w' < m t7 t9p t9n t9c t11p t11n t11c t13 w)
def stopcocklaw05_BasinLasts.k2 (t2p : Option Addr) (t2n : Nat) (t2c : Nat) (t7 : Option Addr) (t9p : Option Addr) (t9n : Nat) (t9c : Nat) (t11p : Option Addr) (t11n : Nat) (t11c : Nat) (w : World) (R : Ending → World → Prop) : Prop :=
  callP Try.prog 13 #[(Value.pointer t7), (Value.slice t2p t2n t2c)] w (fun v10 w21 =>
    dT v10 fun vs2 =>
    stopcocklaw05_BasinLasts.l3 t7 t9p t9n t9c t11p t11n t11c 0 w21 R) (fun ch w22 => R (.panicked ch) w22)
def stopcocklaw05_BasinLasts.b2 (t1p : Option Addr) (t1n : Nat) (t1c : Nat) (t2p : Option Addr) (t2n : Nat) (t2c : Nat) (t7 : Option Addr) (t9p : Option Addr) (t9n : Nat) (t9c : Nat) (t11p : Option Addr) (t11n : Nat) (t11c : Nat) (t12 : Int) (w : World) (R : Ending → World → Prop) (C2 : Option Addr → Nat → Nat → Option Addr → Nat → Nat → Option Addr → Option Addr → Nat → Nat → Option Addr → Nat → Nat → Int → World → Prop) : Prop :=
  cond (decide (t12 < ((t1n : Nat) : Int))) (
    cond (decide (t12 < 50)) (
      chk (decide (0 ≤ t12)) (
        chk (decide (t12 < ((t1n : Nat) : Int))) (
          optP t1p fun d4 =>
          ∃ (x6 : Int), w.drew.cell? (d4.add (t12.toNat * 1)) = some (Value.int .u8 x6) ∧
          (callP Try.prog 11 #[(Value.int .u8 (IntKind.u8.wrap (IntKind.i64.wrap (100 + t12))))] w.drew (fun v8 w15 =>
              dS v8 fun p3 n2 c2 =>
              w15.cell? (d4.add (t12.toNat * 1)) = some (Value.int .u8 x6) ∧
              (newP w15 #[(Value.int .i64 (IntKind.i64.wrap (Int.tmod x6 20))), (Value.slice p3 n2 c2)] 32 fun b5 w17 =>
                callP Try.prog 10 #[(Value.pointer t7), (Value.slice (some ⟨b5, 0, none⟩) 1 1)] w17 (fun v9 w18 =>
                  dI .i64 v9 fun x7 =>
                  cond (x7 != 0) (
                    R (.returned (Value.bool false)) w18) (
                    chk (decide (0 ≤ t12)) (
                      chk (decide (t12 < ((t1n : Nat) : Int))) (
                        optP t1p fun d5 =>
                        ∃ (x8 : Int), w18.cell? (d5.add (t12.toNat * 1)) = some (Value.int .u8 x8) ∧
                        (chk (decide (0 ≤ (Int.tmod x8 20))) (
                          chk (decide ((Int.tmod x8 20) < ((t11n : Nat) : Int))) (
                          optP t11p fun d6 =>
                          (w18.cell? (d6.add ((Int.tmod x8 20).toNat * 1))).isSome = true ∧ w18.frozen? (d6.add ((Int.tmod x8 20).toNat * 1)) = false ∧ ∀ w20, w20 = w18.setCell (d6.add ((Int.tmod x8 20).toNat * 1)) (Value.bool true) →
                          (C2 t1p t1n t1c t2p t2n t2c t7 t9p t9n t9c t11p t11n t11c (IntKind.i64.wrap (t12 + 1)) w20)))))))) (fun ch w19 => R (.panicked ch) w19))) (fun ch w16 => R (.panicked ch) w16))))) (
      stopcocklaw05_BasinLasts.k2 t2p t2n t2c t7 t9p t9n t9c t11p t11n t11c w R)) (
    stopcocklaw05_BasinLasts.k2 t2p t2n t2c t7 t9p t9n t9c t11p t11n t11c w R)
def stopcocklaw05_BasinLasts.l2 (t1p : Option Addr) (t1n : Nat) (t1c : Nat) (t2p : Option Addr) (t2n : Nat) (t2c : Nat) (t7 : Option Addr) (t9p : Option Addr) (t9n : Nat) (t9c : Nat) (t11p : Option Addr) (t11n : Nat) (t11c : Nat) (t12 : Int) (w : World) (R : Ending → World → Prop) : Prop :=
  ∃ (I : Option Addr → Nat → Nat → Option Addr → Nat → Nat → Option Addr → Option Addr → Nat → Nat → Option Addr → Nat → Nat → Int → World → Prop) (m : Option Addr → Nat → Nat → Option Addr → Nat → Nat → Option Addr → Option Addr → Nat → Nat → Option Addr → Nat → Nat → Int → World → Nat), I t1p t1n t1c t2p t2n t2c t7 t9p t9n t9c t11p t11n t11c t12 w ∧
  ∀ (t1p : Option Addr) (t1n : Nat) (t1c : Nat) (t2p : Option Addr) (t2n : Nat) (t2c : Nat) (t7 : Option Addr) (t9p : Option Addr) (t9n : Nat) (t9c : Nat) (t11p : Option Addr) (t11n : Nat) (t11c : Nat) (t12 : Int) (w : World), I t1p t1n t1c t2p t2n t2c t7 t9p t9n t9c t11p t11n t11c t12 w →
  stopcocklaw05_BasinLasts.b2 t1p t1n t1c t2p t2n t2c t7 t9p t9n t9c t11p t11n t11c t12 w R (fun t1p' t1n' t1c' t2p' t2n' t2c' t7' t9p' t9n' t9c' t11p' t11n' t11c' t12' w' => I t1p' t1n' t1c' t2p' t2n' t2c' t7' t9p' t9n' t9c' t11p' t11n' t11c' t12' w' ∧ m t1p' t1n' t1c' t2p' t2n' t2c' t7' t9p' t9n' t9c' t11p' t11n' t11c' t12' w' < m t1p t1n t1c t2p t2n t2c t7 t9p t9n t9c t11p t11n t11c t12 w)
def stopcocklaw05_BasinLasts.k1 (t1p : Option Addr) (t1n : Nat) (t1c : Nat) (t2p : Option Addr) (t2n : Nat) (t2c : Nat) (t7 : Option Addr) (t9p : Option Addr) (t9n : Nat) (t9c : Nat) (w : World) (R : Ending → World → Prop) : Prop :=
  callP Try.prog 12 #[(Value.pointer t7)] w (fun v7 w12 =>
    dI .i64 v7 fun x5 =>
    cond (x5 != 0) (
      R (.returned (Value.bool false)) w12) (
      newP w12 (madeCells #[(Value.bool false)] (20 * 1)) 4 fun b4 w14 =>
      stopcocklaw05_BasinLasts.l2 t1p t1n t1c t2p t2n t2c t7 t9p t9n t9c (some ⟨b4, 0, none⟩) 20 20 0 w14 R)) (fun ch w13 => R (.panicked ch) w13)
def stopcocklaw05_BasinLasts.b1 (t0p : Option Addr) (t0n : Nat) (t0c : Nat) (t1p : Option Addr) (t1n : Nat) (t1c : Nat) (t2p : Option Addr) (t2n : Nat) (t2c : Nat) (t7 : Option Addr) (t9p : Option Addr) (t9n : Nat) (t9c : Nat) (t10 : Int) (w : World) (R : Ending → World → Prop) (C1 : Option Addr → Nat → Nat → Option Addr → Nat → Nat → Option Addr → Nat → Nat → Option Addr → Option Addr → Nat → Nat → Int → World → Prop) : Prop :=
  cond (decide (t10 < ((t0n : Nat) : Int))) (
    cond (decide (t10 < 50)) (
      chk (decide (0 ≤ t10)) (
        chk (decide (t10 < ((t0n : Nat) : Int))) (
          optP t0p fun d1 =>
          ∃ (x2 : Int), w.drew.cell? (d1.add (t10.toNat * 1)) = some (Value.int .u8 x2) ∧
          (callP Try.prog 11 #[(Value.int .u8 (IntKind.u8.wrap (IntKind.i64.wrap (t10 + 1))))] w.drew (fun v5 w6 =>
              dS v5 fun p2 n1 c1 =>
              w6.cell? (d1.add (t10.toNat * 1)) = some (Value.int .u8 x2) ∧
              (newP w6 #[(Value.int .i64 (IntKind.i64.wrap (Int.tmod x2 20))), (Value.slice p2 n1 c1)] 32 fun b3 w8 =>
                callP Try.prog 10 #[(Value.pointer t7), (Value.slice (some ⟨b3, 0, none⟩) 1 1)] w8 (fun v6 w9 =>
                  dI .i64 v6 fun x3 =>
                  cond (x3 != 0) (
                    R (.returned (Value.bool false)) w9) (
                    chk (decide (0 ≤ t10)) (
                      chk (decide (t10 < ((t0n : Nat) : Int))) (
                        optP t0p fun d2 =>
                        ∃ (x4 : Int), w9.cell? (d2.add (t10.toNat * 1)) = some (Value.int .u8 x4) ∧
                        (chk (decide (0 ≤ (Int.tmod x4 20))) (
                          chk (decide ((Int.tmod x4 20) < ((t9n : Nat) : Int))) (
                          optP t9p fun d3 =>
                          (w9.cell? (d3.add ((Int.tmod x4 20).toNat * 1))).isSome = true ∧ w9.frozen? (d3.add ((Int.tmod x4 20).toNat * 1)) = false ∧ ∀ w11, w11 = w9.setCell (d3.add ((Int.tmod x4 20).toNat * 1)) (Value.int .u8 (IntKind.u8.wrap (IntKind.i64.wrap (t10 + 1)))) →
                          (C1 t0p t0n t0c t1p t1n t1c t2p t2n t2c t7 t9p t9n t9c (IntKind.i64.wrap (t10 + 1)) w11)))))))) (fun ch w10 => R (.panicked ch) w10))) (fun ch w7 => R (.panicked ch) w7))))) (
      stopcocklaw05_BasinLasts.k1 t1p t1n t1c t2p t2n t2c t7 t9p t9n t9c w R)) (
    stopcocklaw05_BasinLasts.k1 t1p t1n t1c t2p t2n t2c t7 t9p t9n t9c w R)
def stopcocklaw05_BasinLasts.l1 (t0p : Option Addr) (t0n : Nat) (t0c : Nat) (t1p : Option Addr) (t1n : Nat) (t1c : Nat) (t2p : Option Addr) (t2n : Nat) (t2c : Nat) (t7 : Option Addr) (t9p : Option Addr) (t9n : Nat) (t9c : Nat) (t10 : Int) (w : World) (R : Ending → World → Prop) : Prop :=
  ∃ (I : Option Addr → Nat → Nat → Option Addr → Nat → Nat → Option Addr → Nat → Nat → Option Addr → Option Addr → Nat → Nat → Int → World → Prop) (m : Option Addr → Nat → Nat → Option Addr → Nat → Nat → Option Addr → Nat → Nat → Option Addr → Option Addr → Nat → Nat → Int → World → Nat), I t0p t0n t0c t1p t1n t1c t2p t2n t2c t7 t9p t9n t9c t10 w ∧
  ∀ (t0p : Option Addr) (t0n : Nat) (t0c : Nat) (t1p : Option Addr) (t1n : Nat) (t1c : Nat) (t2p : Option Addr) (t2n : Nat) (t2c : Nat) (t7 : Option Addr) (t9p : Option Addr) (t9n : Nat) (t9c : Nat) (t10 : Int) (w : World), I t0p t0n t0c t1p t1n t1c t2p t2n t2c t7 t9p t9n t9c t10 w →
  stopcocklaw05_BasinLasts.b1 t0p t0n t0c t1p t1n t1c t2p t2n t2c t7 t9p t9n t9c t10 w R (fun t0p' t0n' t0c' t1p' t1n' t1c' t2p' t2n' t2c' t7' t9p' t9n' t9c' t10' w' => I t0p' t0n' t0c' t1p' t1n' t1c' t2p' t2n' t2c' t7' t9p' t9n' t9c' t10' w' ∧ m t0p' t0n' t0c' t1p' t1n' t1c' t2p' t2n' t2c' t7' t9p' t9n' t9c' t10' w' < m t0p t0n t0c t1p t1n t1c t2p t2n t2c t7 t9p t9n t9c t10 w)
def stopcocklaw05_BasinLasts.main (a0p : Option Addr) (a0n : Nat) (a0c : Nat) (a1p : Option Addr) (a1n : Nat) (a1c : Nat) (a2p : Option Addr) (a2n : Nat) (a2c : Nat) (w : World) (R : Ending → World → Prop) : Prop :=
  callP Try.prog 8 #[(Value.int .i64 20)] w (fun v1 w1 =>
    dT v1 fun vs1 =>
    optP (vs1[0]?) fun v2 =>
    dP v2 fun p1 =>
    optP (vs1[1]?) fun v3 =>
    dI .i64 v3 fun x1 =>
    callP Try.prog 9 #[] w1 (fun v4 w3 =>
      dB v4 fun b1 =>
      cond (!b1) (
        R (.returned (Value.bool false)) w3) (
        cond (x1 != 0) (
          R (.returned (Value.bool false)) w3) (
          cond (Option.isNone p1) (
            R (.returned (Value.bool false)) w3) (
            newP w3 (madeCells #[(Value.int .u8 0)] (20 * 1)) 5 fun b2 w5 =>
            stopcocklaw05_BasinLasts.l1 a0p a0n a0c a1p a1n a1c a2p a2n a2c p1 (some ⟨b2, 0, none⟩) 20 20 0 w5 R)))) (fun ch w4 => R (.panicked ch) w4)) (fun ch w2 => R (.panicked ch) w2)
abbrev stopcocklaw05_BasinLasts.C (a0p : Option Addr) (a0n : Nat) (a0c : Nat) (a1p : Option Addr) (a1n : Nat) (a1c : Nat) (a2p : Option Addr) (a2n : Nat) (a2c : Nat) (w : World) (R : Ending → World → Prop) : Prop := Calls Try.prog 3 #[(Value.slice a0p a0n a0c), (Value.slice a1p a1n a1c), (Value.slice a2p a2n a2c)] w R
noncomputable def stopcocklaw05_BasinLasts.code : Code := (Try.f3.body).getD .skip
noncomputable def stopcocklaw05_BasinLasts.sk (R : Ending → World → Prop) : Sk := (.seq .leaf (.seq .leaf (.seq .leaf (.seq .leaf (.cut [(1, .slice), (2, .slice), (7, .ptr), (9, .slice)] (fun (t1p : Option Addr) (t1n : Nat) (t1c : Nat) (t2p : Option Addr) (t2n : Nat) (t2c : Nat) (t7 : Option Addr) (t9p : Option Addr) (t9n : Nat) (t9c : Nat) (w : World) => stopcocklaw05_BasinLasts.k1 t1p t1n t1c t2p t2n t2c t7 t9p t9n t9c w R) (.seq .leaf (.block (.loop [(0, .slice), (1, .slice), (2, .slice), (7, .ptr), (9, .slice), (10, .int .i64)] (fun (t0p : Option Addr) (t0n : Nat) (t0c : Nat) (t1p : Option Addr) (t1n : Nat) (t1c : Nat) (t2p : Option Addr) (t2n : Nat) (t2c : Nat) (t7 : Option Addr) (t9p : Option Addr) (t9n : Nat) (t9c : Nat) (t10 : Int) (w : World) => stopcocklaw05_BasinLasts.l1 t0p t0n t0c t1p t1n t1c t2p t2n t2c t7 t9p t9n t9c t10 w R) (fun (C1 : Option Addr → Nat → Nat → Option Addr → Nat → Nat → Option Addr → Nat → Nat → Option Addr → Option Addr → Nat → Nat → Int → World → Prop) => .leaf)))) (.seq .leaf (.seq .leaf (.cut [(2, .slice), (7, .ptr), (9, .slice), (11, .slice)] (fun (t2p : Option Addr) (t2n : Nat) (t2c : Nat) (t7 : Option Addr) (t9p : Option Addr) (t9n : Nat) (t9c : Nat) (t11p : Option Addr) (t11n : Nat) (t11c : Nat) (w : World) => stopcocklaw05_BasinLasts.k2 t2p t2n t2c t7 t9p t9n t9c t11p t11n t11c w R) (.seq .leaf (.block (.loop [(1, .slice), (2, .slice), (7, .ptr), (9, .slice), (11, .slice), (12, .int .i64)] (fun (t1p : Option Addr) (t1n : Nat) (t1c : Nat) (t2p : Option Addr) (t2n : Nat) (t2c : Nat) (t7 : Option Addr) (t9p : Option Addr) (t9n : Nat) (t9c : Nat) (t11p : Option Addr) (t11n : Nat) (t11c : Nat) (t12 : Int) (w : World) => stopcocklaw05_BasinLasts.l2 t1p t1n t1c t2p t2n t2c t7 t9p t9n t9c t11p t11n t11c t12 w R) (fun (C2 : Option Addr → Nat → Nat → Option Addr → Nat → Nat → Option Addr → Option Addr → Nat → Nat → Option Addr → Nat → Nat → Int → World → Prop) => .leaf)))) (.seq .leaf (.seq (.seq .leaf (.block (.loop [(7, .ptr), (9, .slice), (11, .slice), (13, .int .i64)] (fun (t7 : Option Addr) (t9p : Option Addr) (t9n : Nat) (t9c : Nat) (t11p : Option Addr) (t11n : Nat) (t11c : Nat) (t13 : Int) (w : World) => stopcocklaw05_BasinLasts.l3 t7 t9p t9n t9c t11p t11n t11c t13 w R) (fun (C3 : Option Addr → Option Addr → Nat → Nat → Option Addr → Nat → Nat → Int → World → Prop) => .leaf)))) .leaf))))))))))
def stopcocklaw05_BasinLasts.owed (R : Ending → World → Prop) : Prop :=
  (∀ (t0p : Option Addr) (t0n : Nat) (t0c : Nat) (t1p : Option Addr) (t1n : Nat) (t1c : Nat) (t2p : Option Addr) (t2n : Nat) (t2c : Nat) (t7 : Option Addr) (t9p : Option Addr) (t9n : Nat) (t9c : Nat) (t10 : Int) (w : World), stopcocklaw05_BasinLasts.l1 t0p t0n t0c t1p t1n t1c t2p t2n t2c t7 t9p t9n t9c t10 w R → stopcocklaw05_BasinLasts.l1 t0p t0n t0c t1p t1n t1c t2p t2n t2c t7 t9p t9n t9c t10 w R) ∧ (∀ (C1 : Option Addr → Nat → Nat → Option Addr → Nat → Nat → Option Addr → Nat → Nat → Option Addr → Option Addr → Nat → Nat → Int → World → Prop), True) ∧ (∀ (t1p : Option Addr) (t1n : Nat) (t1c : Nat) (t2p : Option Addr) (t2n : Nat) (t2c : Nat) (t7 : Option Addr) (t9p : Option Addr) (t9n : Nat) (t9c : Nat) (w : World), stopcocklaw05_BasinLasts.k1 t1p t1n t1c t2p t2n t2c t7 t9p t9n t9c w R → stopcocklaw05_BasinLasts.k1 t1p t1n t1c t2p t2n t2c t7 t9p t9n t9c w R) ∧ (∀ (t1p : Option Addr) (t1n : Nat) (t1c : Nat) (t2p : Option Addr) (t2n : Nat) (t2c : Nat) (t7 : Option Addr) (t9p : Option Addr) (t9n : Nat) (t9c : Nat) (t11p : Option Addr) (t11n : Nat) (t11c : Nat) (t12 : Int) (w : World), stopcocklaw05_BasinLasts.l2 t1p t1n t1c t2p t2n t2c t7 t9p t9n t9c t11p t11n t11c t12 w R → stopcocklaw05_BasinLasts.l2 t1p t1n t1c t2p t2n t2c t7 t9p t9n t9c t11p t11n t11c t12 w R) ∧ (∀ (C2 : Option Addr → Nat → Nat → Option Addr → Nat → Nat → Option Addr → Option Addr → Nat → Nat → Option Addr → Nat → Nat → Int → World → Prop), True) ∧ (∀ (t2p : Option Addr) (t2n : Nat) (t2c : Nat) (t7 : Option Addr) (t9p : Option Addr) (t9n : Nat) (t9c : Nat) (t11p : Option Addr) (t11n : Nat) (t11c : Nat) (w : World), stopcocklaw05_BasinLasts.k2 t2p t2n t2c t7 t9p t9n t9c t11p t11n t11c w R → stopcocklaw05_BasinLasts.k2 t2p t2n t2c t7 t9p t9n t9c t11p t11n t11c w R) ∧ (∀ (t7 : Option Addr) (t9p : Option Addr) (t9n : Nat) (t9c : Nat) (t11p : Option Addr) (t11n : Nat) (t11c : Nat) (t13 : Int) (w : World), stopcocklaw05_BasinLasts.l3 t7 t9p t9n t9c t11p t11n t11c t13 w R → stopcocklaw05_BasinLasts.l3 t7 t9p t9n t9c t11p t11n t11c t13 w R) ∧ (∀ (C3 : Option Addr → Option Addr → Nat → Nat → Option Addr → Nat → Nat → Int → World → Prop), True) ∧ True
theorem stopcocklaw05_BasinLasts.pays (R : Ending → World → Prop) : stopcocklaw05_BasinLasts.owed R := ⟨(fun _ _ _ _ _ _ _ _ _ _ _ _ _ _ _ h => h), (fun _ => trivial), (fun _ _ _ _ _ _ _ _ _ _ _ h => h), (fun _ _ _ _ _ _ _ _ _ _ _ _ _ _ _ h => h), (fun _ => trivial), (fun _ _ _ _ _ _ _ _ _ _ _ h => h), (fun _ _ _ _ _ _ _ _ _ h => h), (fun _ => trivial), trivial⟩
set_option maxRecDepth 100000 in
theorem stopcocklaw05_BasinLasts.ok {a0p : Option Addr} {a0n : Nat} {a0c : Nat} {a1p : Option Addr} {a1n : Nat} {a1c : Nat} {a2p : Option Addr} {a2n : Nat} {a2c : Nat} {w : World} {R : Ending → World → Prop} (h : stopcocklaw05_BasinLasts.main a0p a0n a0c a1p a1n a1c a2p a2n a2c w R) : stopcocklaw05_BasinLasts.C a0p a0n a0c a1p a1n a1c a2p a2n a2c w R :=
  ev_ok cxok (c := cx) Try.func3 (code := stopcocklaw05_BasinLasts.code) (by kernel_rfl) [.tmp 6] (by kernel_rfl) 157 (by kernel_rfl) (stopcocklaw05_BasinLasts.sk R) (args := [(Value.slice a0p a0n a0c), (Value.slice a1p a1n a1c), (Value.slice a2p a2n a2c)]) (Nat.le_of_ble_eq_true rfl) (by kernel_rfl) (o := stopcocklaw05_BasinLasts.owed R) (by kernel_rfl) (stopcocklaw05_BasinLasts.pays R) h

/-! ### stopcock/stopcocklaw05.fill: function 11 -/
def stopcocklaw05_fill.b1 (t0 : Int) (t3p : Option Addr) (t3n : Nat) (t3c : Nat) (t4 : Int) (w : World) (R : Ending → World → Prop) (C1 : Int → Option Addr → Nat → Nat → Int → World → Prop) : Prop :=
  cond (decide (t4 < 64)) (
    chk (decide (0 ≤ t4)) (
      chk (decide (t4 < ((t3n : Nat) : Int))) (
        optP t3p fun d1 =>
        (w.cell? (d1.add (t4.toNat * 1))).isSome = true ∧ w.frozen? (d1.add (t4.toNat * 1)) = false ∧ ∀ w2, w2 = w.setCell (d1.add (t4.toNat * 1)) (Value.int .u8 t0) →
        (C1 t0 t3p t3n t3c (IntKind.i64.wrap (t4 + 1)) w2)))) (
    R (.returned (Value.slice t3p t3n t3c)) w)
def stopcocklaw05_fill.l1 (t0 : Int) (t3p : Option Addr) (t3n : Nat) (t3c : Nat) (t4 : Int) (w : World) (R : Ending → World → Prop) : Prop :=
  ∃ (I : Int → Option Addr → Nat → Nat → Int → World → Prop) (m : Int → Option Addr → Nat → Nat → Int → World → Nat), I t0 t3p t3n t3c t4 w ∧
  ∀ (t0 : Int) (t3p : Option Addr) (t3n : Nat) (t3c : Nat) (t4 : Int) (w : World), I t0 t3p t3n t3c t4 w →
  stopcocklaw05_fill.b1 t0 t3p t3n t3c t4 w R (fun t0' t3p' t3n' t3c' t4' w' => I t0' t3p' t3n' t3c' t4' w' ∧ m t0' t3p' t3n' t3c' t4' w' < m t0 t3p t3n t3c t4 w)
def stopcocklaw05_fill.main (a0 : Int) (w : World) (R : Ending → World → Prop) : Prop :=
  newP w (madeCells #[(Value.int .u8 0)] (64 * 1)) 5 fun b1 w1 =>
  stopcocklaw05_fill.l1 a0 (some ⟨b1, 0, none⟩) 64 64 0 w1 R
abbrev stopcocklaw05_fill.C (a0 : Int) (w : World) (R : Ending → World → Prop) : Prop := Calls Try.prog 11 #[(Value.int .u8 a0)] w R
noncomputable def stopcocklaw05_fill.code : Code := (Try.f11.body).getD .skip
noncomputable def stopcocklaw05_fill.sk (R : Ending → World → Prop) : Sk := (.seq .leaf (.seq .leaf (.seq (.seq .leaf (.block (.loop [(0, .int .u8), (3, .slice), (4, .int .i64)] (fun (t0 : Int) (t3p : Option Addr) (t3n : Nat) (t3c : Nat) (t4 : Int) (w : World) => stopcocklaw05_fill.l1 t0 t3p t3n t3c t4 w R) (fun (C1 : Int → Option Addr → Nat → Nat → Int → World → Prop) => .leaf)))) .leaf)))
def stopcocklaw05_fill.owed (R : Ending → World → Prop) : Prop :=
  (∀ (t0 : Int) (t3p : Option Addr) (t3n : Nat) (t3c : Nat) (t4 : Int) (w : World), stopcocklaw05_fill.l1 t0 t3p t3n t3c t4 w R → stopcocklaw05_fill.l1 t0 t3p t3n t3c t4 w R) ∧ (∀ (C1 : Int → Option Addr → Nat → Nat → Int → World → Prop), True) ∧ True
theorem stopcocklaw05_fill.pays (R : Ending → World → Prop) : stopcocklaw05_fill.owed R := ⟨(fun _ _ _ _ _ _ h => h), (fun _ => trivial), trivial⟩
set_option maxRecDepth 100000 in
theorem stopcocklaw05_fill.ok {a0 : Int} {w : World} {R : Ending → World → Prop} (h : stopcocklaw05_fill.main a0 w R) : stopcocklaw05_fill.C a0 w R :=
  ev_ok cxok (c := cx) Try.func11 (code := stopcocklaw05_fill.code) (by kernel_rfl) [.tmp 2] (by kernel_rfl) 15 (by kernel_rfl) (stopcocklaw05_fill.sk R) (args := [(Value.int .u8 a0)]) (Nat.le_of_ble_eq_true rfl) (by kernel_rfl) (o := stopcocklaw05_fill.owed R) (by kernel_rfl) (stopcocklaw05_fill.pays R) h

/-! ### stopcock/stopcocklaw05.BasinFails: function 6 -/
def stopcocklaw05_BasinFails.k1 (t0 : Int) (t1p : Option Addr) (t1n : Nat) (t1c : Nat) (t5 : Option Addr) (t7 : Int) (t8 : Int) (t32 : Int) (t33 : Bool) (w : World) (R : Ending → World → Prop) (C1 : Int → Option Addr → Nat → Nat → Option Addr → Int → World → Prop) : Prop :=
  cond (!((t8 == 0) == (decide (t7 < (IntKind.i64.wrap t0))))) (
    R (.returned (Value.bool false)) w) (
    cond (t8 != 0) (
      cond (t8 != 10) (
        R (.returned (Value.bool false)) w) (
        C1 t0 t1p t1n t1c t5 (IntKind.i64.wrap (t7 + 1)) w)) (
      C1 t0 t1p t1n t1c t5 (IntKind.i64.wrap (t7 + 1)) w))
def stopcocklaw05_BasinFails.k2 (t5 : Option Addr) (w : World) (R : Ending → World → Prop) : Prop :=
  callP Try.prog 13 #[(Value.pointer t5), (Value.slice none 0 0)] w (fun v9 w14 =>
    dT v9 fun vs3 =>
    callP Try.prog 12 #[(Value.pointer t5)] w14 (fun v10 w16 =>
      dI .i64 v10 fun x4 =>
      R (.returned (Value.bool (x4 == 0))) w16) (fun ch w17 => R (.panicked ch) w17)) (fun ch w15 => R (.panicked ch) w15)
def stopcocklaw05_BasinFails.b1 (t0 : Int) (t1p : Option Addr) (t1n : Nat) (t1c : Nat) (t5 : Option Addr) (t7 : Int) (w : World) (R : Ending → World → Prop) (C1 : Int → Option Addr → Nat → Nat → Option Addr → Int → World → Prop) : Prop :=
  cond (decide (t7 < ((t1n : Nat) : Int))) (
    cond (decide (t7 < 300)) (
      chk (decide (0 ≤ t7)) (
        chk (decide (t7 < ((t1n : Nat) : Int))) (
          optP t1p fun d1 =>
          ∃ (b2 : Bool), w.cell? (d1.add (t7.toNat * 1)) = some (Value.bool b2) ∧
          (cond b2 (
              callP Try.prog 12 #[(Value.pointer t5)] w (fun v6 w7 =>
                dI .i64 v6 fun x2 =>
                stopcocklaw05_BasinFails.k1 t0 t1p t1n t1c t5 t7 x2 t7 (decide (t7 < 300)) w7 R C1) (fun ch w8 => R (.panicked ch) w8)) (
              callP Try.prog 11 #[(Value.int .u8 1)] w (fun v7 w9 =>
                dS v7 fun p2 n1 c1 =>
                newP w9 #[(Value.int .i64 (Int.tmod t7 4)), (Value.slice p2 n1 c1)] 32 fun b3 w11 =>
                callP Try.prog 10 #[(Value.pointer t5), (Value.slice (some ⟨b3, 0, none⟩) 1 1)] w11 (fun v8 w12 =>
                  dI .i64 v8 fun x3 =>
                  stopcocklaw05_BasinFails.k1 t0 t1p t1n t1c t5 t7 x3 t7 (decide (t7 < 300)) w12 R C1) (fun ch w13 => R (.panicked ch) w13)) (fun ch w10 => R (.panicked ch) w10)))))) (
      stopcocklaw05_BasinFails.k2 t5 w R)) (
    stopcocklaw05_BasinFails.k2 t5 w R)
def stopcocklaw05_BasinFails.l1 (t0 : Int) (t1p : Option Addr) (t1n : Nat) (t1c : Nat) (t5 : Option Addr) (t7 : Int) (w : World) (R : Ending → World → Prop) : Prop :=
  ∃ (I : Int → Option Addr → Nat → Nat → Option Addr → Int → World → Prop) (m : Int → Option Addr → Nat → Nat → Option Addr → Int → World → Nat), I t0 t1p t1n t1c t5 t7 w ∧
  ∀ (t0 : Int) (t1p : Option Addr) (t1n : Nat) (t1c : Nat) (t5 : Option Addr) (t7 : Int) (w : World), I t0 t1p t1n t1c t5 t7 w →
  stopcocklaw05_BasinFails.b1 t0 t1p t1n t1c t5 t7 w R (fun t0' t1p' t1n' t1c' t5' t7' w' => I t0' t1p' t1n' t1c' t5' t7' w' ∧ m t0' t1p' t1n' t1c' t5' t7' w' < m t0 t1p t1n t1c t5 t7 w)
def stopcocklaw05_BasinFails.main (a0 : Int) (a1p : Option Addr) (a1n : Nat) (a1c : Nat) (w : World) (R : Ending → World → Prop) : Prop :=
  callP Try.prog 8 #[(Value.int .i64 4)] w (fun v1 w1 =>
    dT v1 fun vs1 =>
    optP (vs1[0]?) fun v2 =>
    dP v2 fun p1 =>
    optP (vs1[1]?) fun v3 =>
    dI .i64 v3 fun x1 =>
    callP Try.prog 9 #[] w1 (fun v4 w3 =>
      dB v4 fun b1 =>
      cond (!b1) (
        R (.returned (Value.bool false)) w3) (
        cond (x1 != 0) (
          R (.returned (Value.bool false)) w3) (
          cond (Option.isNone p1) (
            R (.returned (Value.bool false)) w3) (
            callP Try.prog 21 #[(Value.pointer p1), (Value.int .i64 (IntKind.i64.wrap a0))] w3 (fun v5 w5 =>
              dT v5 fun vs2 =>
              stopcocklaw05_BasinFails.l1 a0 a1p a1n a1c p1 0 w5 R) (fun ch w6 => R (.panicked ch) w6))))) (fun ch w4 => R (.panicked ch) w4)) (fun ch w2 => R (.panicked ch) w2)
abbrev stopcocklaw05_BasinFails.C (a0 : Int) (a1p : Option Addr) (a1n : Nat) (a1c : Nat) (w : World) (R : Ending → World → Prop) : Prop := Calls Try.prog 6 #[(Value.int .u8 a0), (Value.slice a1p a1n a1c)] w R
noncomputable def stopcocklaw05_BasinFails.code : Code := (Try.f6.body).getD .skip
noncomputable def stopcocklaw05_BasinFails.sk (R : Ending → World → Prop) : Sk := (.seq .leaf (.seq .leaf (.seq .leaf (.seq .leaf (.cut [(5, .ptr)] (fun (t5 : Option Addr) (w : World) => stopcocklaw05_BasinFails.k2 t5 w R) (.seq .leaf (.block (.loop [(0, .int .u8), (1, .slice), (5, .ptr), (7, .int .i64)] (fun (t0 : Int) (t1p : Option Addr) (t1n : Nat) (t1c : Nat) (t5 : Option Addr) (t7 : Int) (w : World) => stopcocklaw05_BasinFails.l1 t0 t1p t1n t1c t5 t7 w R) (fun (C1 : Int → Option Addr → Nat → Nat → Option Addr → Int → World → Prop) => (.seq .leaf (.seq (.block (.seq .leaf (.cut [(0, .int .u8), (1, .slice), (5, .ptr), (7, .int .i64), (8, .int .i64), (32, .int .i64), (33, .bool)] (fun (t0 : Int) (t1p : Option Addr) (t1n : Nat) (t1c : Nat) (t5 : Option Addr) (t7 : Int) (t8 : Int) (t32 : Int) (t33 : Bool) (w : World) => stopcocklaw05_BasinFails.k1 t0 t1p t1n t1c t5 t7 t8 t32 t33 w R C1) .leaf .leaf))) .leaf)))))) .leaf)))))
def stopcocklaw05_BasinFails.owed (R : Ending → World → Prop) : Prop :=
  (∀ (t0 : Int) (t1p : Option Addr) (t1n : Nat) (t1c : Nat) (t5 : Option Addr) (t7 : Int) (w : World), stopcocklaw05_BasinFails.l1 t0 t1p t1n t1c t5 t7 w R → stopcocklaw05_BasinFails.l1 t0 t1p t1n t1c t5 t7 w R) ∧ (∀ (C1 : Int → Option Addr → Nat → Nat → Option Addr → Int → World → Prop), (∀ (t0 : Int) (t1p : Option Addr) (t1n : Nat) (t1c : Nat) (t5 : Option Addr) (t7 : Int) (t8 : Int) (t32 : Int) (t33 : Bool) (w : World), stopcocklaw05_BasinFails.k1 t0 t1p t1n t1c t5 t7 t8 t32 t33 w R C1 → stopcocklaw05_BasinFails.k1 t0 t1p t1n t1c t5 t7 t8 t32 t33 w R C1) ∧ True) ∧ (∀ (t5 : Option Addr) (w : World), stopcocklaw05_BasinFails.k2 t5 w R → stopcocklaw05_BasinFails.k2 t5 w R) ∧ True
theorem stopcocklaw05_BasinFails.pays (R : Ending → World → Prop) : stopcocklaw05_BasinFails.owed R := ⟨(fun _ _ _ _ _ _ _ h => h), (fun _ => ⟨(fun _ _ _ _ _ _ _ _ _ _ h => h), trivial⟩), (fun _ _ h => h), trivial⟩
set_option maxRecDepth 100000 in
theorem stopcocklaw05_BasinFails.ok {a0 : Int} {a1p : Option Addr} {a1n : Nat} {a1c : Nat} {w : World} {R : Ending → World → Prop} (h : stopcocklaw05_BasinFails.main a0 a1p a1n a1c w R) : stopcocklaw05_BasinFails.C a0 a1p a1n a1c w R :=
  ev_ok cxok (c := cx) Try.func6 (code := stopcocklaw05_BasinFails.code) (by kernel_rfl) [.tmp 4] (by kernel_rfl) 70 (by kernel_rfl) (stopcocklaw05_BasinFails.sk R) (args := [(Value.int .u8 a0), (Value.slice a1p a1n a1c)]) (Nat.le_of_ble_eq_true rfl) (by kernel_rfl) (o := stopcocklaw05_BasinFails.owed R) (by kernel_rfl) (stopcocklaw05_BasinFails.pays R) h

/-! ### stopcock/stopcocklaw05.BasinNone: function 7 -/
def stopcocklaw05_BasinNone.main (a0 : Int) (a1p : Option Addr) (a1n : Nat) (a1c : Nat) (a2p : Option Addr) (a2n : Nat) (a2c : Nat) (w : World) (R : Ending → World → Prop) : Prop :=
  callP Try.prog 21 #[(Value.pointer none), (Value.int .i64 a0)] w (fun v1 w1 =>
    dT v1 fun vs1 =>
    callP Try.prog 13 #[(Value.pointer none), (Value.slice a2p a2n a2c)] w1 (fun v2 w3 =>
      dT v2 fun vs2 =>
      callP Try.prog 14 #[(Value.pointer none), (Value.int .i64 a0)] w3 (fun v3 w5 =>
        dT v3 fun vs3 =>
        optP (vs3[0]?) fun v4 =>
        dS v4 fun p1 n1 c1 =>
        optP (vs3[1]?) fun v5 =>
        dI .i64 v5 fun x1 =>
        callP Try.prog 9 #[] w5 (fun v6 w7 =>
          dB v6 fun b1 =>
          cond b1 (
            cond (x1 == 1) (
              callP Try.prog 10 #[(Value.pointer none), (Value.slice a1p a1n a1c)] w7 (fun v7 w9 =>
                dI .i64 v7 fun x2 =>
                cond (x2 == x1) (
                  callP Try.prog 12 #[(Value.pointer none)] w9 (fun v8 w11 =>
                    dI .i64 v8 fun x3 =>
                    cond (x3 == x1) (
                      callP Try.prog 16 #[(Value.pointer none)] w11 (fun v9 w13 =>
                        dI .i64 v9 fun x4 =>
                        cond (x4 == 0) (
                          callP Try.prog 15 #[(Value.pointer none)] w13 (fun v10 w15 =>
                          dI .i64 v10 fun x5 =>
                          R (.returned (Value.bool (x5 == 0))) w15) (fun ch w16 => R (.panicked ch) w16)) (
                          R (.returned (Value.bool false)) w13)) (fun ch w14 => R (.panicked ch) w14)) (
                      R (.returned (Value.bool false)) w11)) (fun ch w12 => R (.panicked ch) w12)) (
                  R (.returned (Value.bool false)) w9)) (fun ch w10 => R (.panicked ch) w10)) (
              R (.returned (Value.bool false)) w7)) (
            R (.returned (Value.bool false)) w7)) (fun ch w8 => R (.panicked ch) w8)) (fun ch w6 => R (.panicked ch) w6)) (fun ch w4 => R (.panicked ch) w4)) (fun ch w2 => R (.panicked ch) w2)
abbrev stopcocklaw05_BasinNone.C (a0 : Int) (a1p : Option Addr) (a1n : Nat) (a1c : Nat) (a2p : Option Addr) (a2n : Nat) (a2c : Nat) (w : World) (R : Ending → World → Prop) : Prop := Calls Try.prog 7 #[(Value.int .i64 a0), (Value.slice a1p a1n a1c), (Value.slice a2p a2n a2c)] w R
noncomputable def stopcocklaw05_BasinNone.code : Code := (Try.f7.body).getD .skip
noncomputable def stopcocklaw05_BasinNone.sk (R : Ending → World → Prop) : Sk := .leaf
def stopcocklaw05_BasinNone.owed (R : Ending → World → Prop) : Prop :=
  True
theorem stopcocklaw05_BasinNone.pays (R : Ending → World → Prop) : stopcocklaw05_BasinNone.owed R := trivial
set_option maxRecDepth 100000 in
theorem stopcocklaw05_BasinNone.ok {a0 : Int} {a1p : Option Addr} {a1n : Nat} {a1c : Nat} {a2p : Option Addr} {a2n : Nat} {a2c : Nat} {w : World} {R : Ending → World → Prop} (h : stopcocklaw05_BasinNone.main a0 a1p a1n a1c a2p a2n a2c w R) : stopcocklaw05_BasinNone.C a0 a1p a1n a1c a2p a2n a2c w R :=
  ev_ok cxok (c := cx) Try.func7 (code := stopcocklaw05_BasinNone.code) (by kernel_rfl) [.tmp 6] (by kernel_rfl) 50 (by kernel_rfl) (stopcocklaw05_BasinNone.sk R) (args := [(Value.int .i64 a0), (Value.slice a1p a1n a1c), (Value.slice a2p a2n a2c)]) (Nat.le_of_ble_eq_true rfl) (by kernel_rfl) (o := stopcocklaw05_BasinNone.owed R) (by kernel_rfl) (stopcocklaw05_BasinNone.pays R) h

/-! ### stopcock/stopcocklaw05.BasinAll: function 4 -/
def stopcocklaw05_BasinAll.k1 (t0p : Option Addr) (t0n : Nat) (t0c : Nat) (t1p : Option Addr) (t1n : Nat) (t1c : Nat) (t5 : Option Addr) (t7 : Option Addr) (t9 : Option Addr) (t11 : Int) (t12 : Nat) (t63 : Int) (t64 : Bool) (w : World) (R : Ending → World → Prop) (C1 : Option Addr → Nat → Nat → Option Addr → Nat → Nat → Option Addr → Option Addr → Option Addr → Int → World → Prop) : Prop :=
  ∃ (cs1 : Array Value), cs1.size = 2 ∧ CellsAt w (⟨t12, 0, none⟩ : Addr) cs1.toList ∧
  (optP (Instr.fill (fun i => some (i * 2, 2)) (madeCells #[(Value.int .i64 0), (Value.slice none 0 0)] (1 * 2)) [(0, (Value.agg cs1))]) fun cs2 =>
    newP w cs2 32 fun b4 w17 =>
    callP Try.prog 10 #[(Value.pointer t5), (Value.slice (some ⟨b4, 0, none⟩) 1 1)] w17 (fun v13 w18 =>
      dI .i64 v13 fun x6 =>
      cond (x6 != 0) (
        R (.returned (Value.bool false)) w18) (
        ∃ (cs3 : Array Value), cs3.size = 2 ∧ CellsAt w18 (⟨t12, 0, none⟩ : Addr) cs3.toList ∧
        (optP (Instr.fill (fun i => some (i * 2, 2)) (madeCells #[(Value.int .i64 0), (Value.slice none 0 0)] (1 * 2)) [(0, (Value.agg cs3))]) fun cs4 =>
          newP w18 cs4 32 fun b5 w20 =>
          callP Try.prog 10 #[(Value.pointer t7), (Value.slice (some ⟨b5, 0, none⟩) 1 1)] w20 (fun v14 w21 =>
            dI .i64 v14 fun x7 =>
            cond (x7 != 0) (
              R (.returned (Value.bool false)) w21) (
              ∃ (cs5 : Array Value), cs5.size = 2 ∧ CellsAt w21 (⟨t12, 0, none⟩ : Addr) cs5.toList ∧
              (optP (Instr.fill (fun i => some (i * 2, 2)) (madeCells #[(Value.int .i64 0), (Value.slice none 0 0)] (1 * 2)) [(0, (Value.agg cs5))]) fun cs6 =>
                newP w21 cs6 32 fun b6 w23 =>
                callP Try.prog 10 #[(Value.pointer t9), (Value.slice (some ⟨b6, 0, none⟩) 1 1)] w23 (fun v15 w24 =>
                  dI .i64 v15 fun x8 =>
                  cond (x8 != 0) (
                    R (.returned (Value.bool false)) w24) (
                    C1 t0p t0n t0c t1p t1n t1c t5 t7 t9 (IntKind.i64.wrap (t11 + 1)) w24)) (fun ch w25 => R (.panicked ch) w25)))) (fun ch w22 => R (.panicked ch) w22)))) (fun ch w19 => R (.panicked ch) w19))
def stopcocklaw05_BasinAll.k3 (t1p : Option Addr) (t1n : Nat) (t1c : Nat) (t5 : Option Addr) (t7 : Option Addr) (t9 : Option Addr) (t13p : Option Addr) (t13n : Nat) (t13c : Nat) (t14 : Int) (t15 : Nat) (t118 : Int) (t119 : Bool) (w : World) (R : Ending → World → Prop) (C2 : Option Addr → Nat → Nat → Option Addr → Option Addr → Option Addr → Option Addr → Nat → Nat → Int → World → Prop) : Prop :=
  ∃ (cs7 : Array Value), cs7.size = 2 ∧ CellsAt w (⟨t15, 0, none⟩ : Addr) cs7.toList ∧
  (optP (Instr.fill (fun i => some (i * 2, 2)) (madeCells #[(Value.int .i64 0), (Value.slice none 0 0)] (1 * 2)) [(0, (Value.agg cs7))]) fun cs8 =>
    newP w cs8 32 fun b10 w41 =>
    callP Try.prog 10 #[(Value.pointer t5), (Value.slice (some ⟨b10, 0, none⟩) 1 1)] w41 (fun v21 w42 =>
      dI .i64 v21 fun x14 =>
      cond (x14 != 0) (
        R (.returned (Value.bool false)) w42) (
        ∃ (cs9 : Array Value), cs9.size = 2 ∧ CellsAt w42 (⟨t15, 0, none⟩ : Addr) cs9.toList ∧
        (optP (Instr.fill (fun i => some (i * 2, 2)) (madeCells #[(Value.int .i64 0), (Value.slice none 0 0)] (1 * 2)) [(0, (Value.agg cs9))]) fun cs10 =>
          newP w42 cs10 32 fun b11 w44 =>
          callP Try.prog 10 #[(Value.pointer t7), (Value.slice (some ⟨b11, 0, none⟩) 1 1)] w44 (fun v22 w45 =>
            dI .i64 v22 fun x15 =>
            cond (x15 != 0) (
              R (.returned (Value.bool false)) w45) (
              newP w45 #[(Value.int .i64 t14)] 3 fun b12 w47 =>
              appP w47 t13p t13n t13c 1 (CellsO w47 (some ⟨b12, 0, none⟩)) 3 1 8 #[(Value.int .i64 0)] fun p8 c5 w48 =>
              C2 t1p t1n t1c t5 t7 t9 p8 (t13n + 1) c5 (IntKind.i64.wrap (t14 + 1)) w48)) (fun ch w46 => R (.panicked ch) w46)))) (fun ch w43 => R (.panicked ch) w43))
def stopcocklaw05_BasinAll.k7 (t5 : Option Addr) (t13p : Option Addr) (t13n : Nat) (t13c : Nat) (t21 : Int) (w : World) (R : Ending → World → Prop) : Prop :=
  cond (t21 == ((t13n : Nat) : Int)) (
    callP Try.prog 15 #[(Value.pointer t5)] w (fun v45 w70 =>
      dI .i64 v45 fun x24 =>
      R (.returned (Value.bool (x24 == 0))) w70) (fun ch w71 => R (.panicked ch) w71)) (
    R (.returned (Value.bool false)) w)
def stopcocklaw05_BasinAll.b5 (t5 : Option Addr) (t7 : Option Addr) (t13p : Option Addr) (t13n : Nat) (t13c : Nat) (t16 : Option Addr) (t21 : Int) (t27 : Int) (w : World) (R : Ending → World → Prop) (C5 : Option Addr → Option Addr → Option Addr → Nat → Nat → Option Addr → Int → Int → World → Prop) : Prop :=
  cond (decide (t27 < 10)) (
    callP Try.prog 14 #[(Value.pointer t7), (Value.int .i64 t27)] w (fun v39 w66 =>
      dT v39 fun vs10 =>
      optP (vs10[0]?) fun v40 =>
      dS v40 fun p13 n8 c9 =>
      optP (vs10[1]?) fun v41 =>
      dI .i64 v41 fun x22 =>
      callP Try.prog 14 #[(Value.pointer t16), (Value.int .i64 t27)] w66 (fun v42 w68 =>
        dT v42 fun vs11 =>
        optP (vs11[0]?) fun v43 =>
        dS v43 fun p14 n9 c10 =>
        optP (vs11[1]?) fun v44 =>
        dI .i64 v44 fun x23 =>
        ∃ (ns3 : List Int), ns3.length = n8 ∧ CellsO w68 p13 (ns3.map (Value.int .u8)) ∧
        (∃ (ns4 : List Int), ns4.length = n9 ∧ CellsO w68 p14 (ns4.map (Value.int .u8)) ∧
          (cond (!((strOf ns3).toList == (strOf ns4).toList)) (
              R (.returned (Value.bool false)) w68) (
              C5 t5 t7 t13p t13n t13c t16 t21 (IntKind.i64.wrap (t27 + 1)) w68)))) (fun ch w69 => R (.panicked ch) w69)) (fun ch w67 => R (.panicked ch) w67)) (
    stopcocklaw05_BasinAll.k7 t5 t13p t13n t13c t21 w R)
def stopcocklaw05_BasinAll.l5 (t5 : Option Addr) (t7 : Option Addr) (t13p : Option Addr) (t13n : Nat) (t13c : Nat) (t16 : Option Addr) (t21 : Int) (t27 : Int) (w : World) (R : Ending → World → Prop) : Prop :=
  ∃ (I : Option Addr → Option Addr → Option Addr → Nat → Nat → Option Addr → Int → Int → World → Prop) (m : Option Addr → Option Addr → Option Addr → Nat → Nat → Option Addr → Int → Int → World → Nat), I t5 t7 t13p t13n t13c t16 t21 t27 w ∧
  ∀ (t5 : Option Addr) (t7 : Option Addr) (t13p : Option Addr) (t13n : Nat) (t13c : Nat) (t16 : Option Addr) (t21 : Int) (t27 : Int) (w : World), I t5 t7 t13p t13n t13c t16 t21 t27 w →
  stopcocklaw05_BasinAll.b5 t5 t7 t13p t13n t13c t16 t21 t27 w R (fun t5' t7' t13p' t13n' t13c' t16' t21' t27' w' => I t5' t7' t13p' t13n' t13c' t16' t21' t27' w' ∧ m t5' t7' t13p' t13n' t13c' t16' t21' t27' w' < m t5 t7 t13p t13n t13c t16 t21 t27 w)
def stopcocklaw05_BasinAll.k6 (t5 : Option Addr) (t7 : Option Addr) (t13p : Option Addr) (t13n : Nat) (t13c : Nat) (t16 : Option Addr) (t21 : Int) (w : World) (R : Ending → World → Prop) : Prop :=
  callP Try.prog 13 #[(Value.pointer t7), (Value.slice none 0 0)] w (fun v38 w64 =>
    dT v38 fun vs9 =>
    stopcocklaw05_BasinAll.l5 t5 t7 t13p t13n t13c t16 t21 0 w64 R) (fun ch w65 => R (.panicked ch) w65)
def stopcocklaw05_BasinAll.b4 (t5 : Option Addr) (t7 : Option Addr) (t13p : Option Addr) (t13n : Nat) (t13c : Nat) (t16 : Option Addr) (t21 : Int) (t22 : Int) (w : World) (R : Ending → World → Prop) (C4 : Option Addr → Option Addr → Option Addr → Nat → Nat → Option Addr → Int → Int → World → Prop) : Prop :=
  cond (decide (t22 < 10)) (
    callP Try.prog 14 #[(Value.pointer t5), (Value.int .i64 t22)] w (fun v32 w60 =>
      dT v32 fun vs7 =>
      optP (vs7[0]?) fun v33 =>
      dS v33 fun p11 n6 c7 =>
      optP (vs7[1]?) fun v34 =>
      dI .i64 v34 fun x20 =>
      callP Try.prog 14 #[(Value.pointer t7), (Value.int .i64 t22)] w60 (fun v35 w62 =>
        dT v35 fun vs8 =>
        optP (vs8[0]?) fun v36 =>
        dS v36 fun p12 n7 c8 =>
        optP (vs8[1]?) fun v37 =>
        dI .i64 v37 fun x21 =>
        ∃ (ns1 : List Int), ns1.length = n6 ∧ CellsO w62 p11 (ns1.map (Value.int .u8)) ∧
        (∃ (ns2 : List Int), ns2.length = n7 ∧ CellsO w62 p12 (ns2.map (Value.int .u8)) ∧
          (cond (!((strOf ns1).toList == (strOf ns2).toList)) (
              R (.returned (Value.bool false)) w62) (
              C4 t5 t7 t13p t13n t13c t16 t21 (IntKind.i64.wrap (t22 + 1)) w62)))) (fun ch w63 => R (.panicked ch) w63)) (fun ch w61 => R (.panicked ch) w61)) (
    stopcocklaw05_BasinAll.k6 t5 t7 t13p t13n t13c t16 t21 w R)
def stopcocklaw05_BasinAll.l4 (t5 : Option Addr) (t7 : Option Addr) (t13p : Option Addr) (t13n : Nat) (t13c : Nat) (t16 : Option Addr) (t21 : Int) (t22 : Int) (w : World) (R : Ending → World → Prop) : Prop :=
  ∃ (I : Option Addr → Option Addr → Option Addr → Nat → Nat → Option Addr → Int → Int → World → Prop) (m : Option Addr → Option Addr → Option Addr → Nat → Nat → Option Addr → Int → Int → World → Nat), I t5 t7 t13p t13n t13c t16 t21 t22 w ∧
  ∀ (t5 : Option Addr) (t7 : Option Addr) (t13p : Option Addr) (t13n : Nat) (t13c : Nat) (t16 : Option Addr) (t21 : Int) (t22 : Int) (w : World), I t5 t7 t13p t13n t13c t16 t21 t22 w →
  stopcocklaw05_BasinAll.b4 t5 t7 t13p t13n t13c t16 t21 t22 w R (fun t5' t7' t13p' t13n' t13c' t16' t21' t22' w' => I t5' t7' t13p' t13n' t13c' t16' t21' t22' w' ∧ m t5' t7' t13p' t13n' t13c' t16' t21' t22' w' < m t5 t7 t13p t13n t13c t16 t21 t22 w)
def stopcocklaw05_BasinAll.k5 (t5 : Option Addr) (t7 : Option Addr) (t13p : Option Addr) (t13n : Nat) (t13c : Nat) (t16 : Option Addr) (w : World) (R : Ending → World → Prop) : Prop :=
  callP Try.prog 15 #[(Value.pointer t5)] w (fun v30 w56 =>
    dI .i64 v30 fun x19 =>
    callP Try.prog 13 #[(Value.pointer t5), (Value.slice t13p t13n t13c)] w56 (fun v31 w58 =>
      dT v31 fun vs6 =>
      stopcocklaw05_BasinAll.l4 t5 t7 t13p t13n t13c t16 x19 0 w58 R) (fun ch w59 => R (.panicked ch) w59)) (fun ch w57 => R (.panicked ch) w57)
def stopcocklaw05_BasinAll.b3 (t5 : Option Addr) (t7 : Option Addr) (t9 : Option Addr) (t13p : Option Addr) (t13n : Nat) (t13c : Nat) (t16 : Option Addr) (t17 : Int) (t18 : Int) (w : World) (R : Ending → World → Prop) (C3 : Option Addr → Option Addr → Option Addr → Option Addr → Nat → Nat → Option Addr → Int → Int → World → Prop) : Prop :=
  cond (decide (t18 < 10)) (
    callP Try.prog 14 #[(Value.pointer t9), (Value.int .i64 t18)] w (fun v26 w51 =>
      dT v26 fun vs5 =>
      optP (vs5[0]?) fun v27 =>
      dS v27 fun p10 n5 c6 =>
      optP (vs5[1]?) fun v28 =>
      dI .i64 v28 fun x17 =>
      cond (t17 != 0) (
        R (.returned (Value.bool false)) w51) (
        cond (x17 != 0) (
          R (.returned (Value.bool false)) w51) (
          newP w51 #[(Value.int .i64 t18), (Value.slice p10 n5 c6)] 32 fun b13 w53 =>
          callP Try.prog 10 #[(Value.pointer t16), (Value.slice (some ⟨b13, 0, none⟩) 1 1)] w53 (fun v29 w54 =>
            dI .i64 v29 fun x18 =>
            cond (x18 != 0) (
              R (.returned (Value.bool false)) w54) (
              C3 t5 t7 t9 t13p t13n t13c t16 t17 (IntKind.i64.wrap (t18 + 1)) w54)) (fun ch w55 => R (.panicked ch) w55)))) (fun ch w52 => R (.panicked ch) w52)) (
    stopcocklaw05_BasinAll.k5 t5 t7 t13p t13n t13c t16 w R)
def stopcocklaw05_BasinAll.l3 (t5 : Option Addr) (t7 : Option Addr) (t9 : Option Addr) (t13p : Option Addr) (t13n : Nat) (t13c : Nat) (t16 : Option Addr) (t17 : Int) (t18 : Int) (w : World) (R : Ending → World → Prop) : Prop :=
  ∃ (I : Option Addr → Option Addr → Option Addr → Option Addr → Nat → Nat → Option Addr → Int → Int → World → Prop) (m : Option Addr → Option Addr → Option Addr → Option Addr → Nat → Nat → Option Addr → Int → Int → World → Nat), I t5 t7 t9 t13p t13n t13c t16 t17 t18 w ∧
  ∀ (t5 : Option Addr) (t7 : Option Addr) (t9 : Option Addr) (t13p : Option Addr) (t13n : Nat) (t13c : Nat) (t16 : Option Addr) (t17 : Int) (t18 : Int) (w : World), I t5 t7 t9 t13p t13n t13c t16 t17 t18 w →
  stopcocklaw05_BasinAll.b3 t5 t7 t9 t13p t13n t13c t16 t17 t18 w R (fun t5' t7' t9' t13p' t13n' t13c' t16' t17' t18' w' => I t5' t7' t9' t13p' t13n' t13c' t16' t17' t18' w' ∧ m t5' t7' t9' t13p' t13n' t13c' t16' t17' t18' w' < m t5 t7 t9 t13p t13n t13c t16 t17 t18 w)
def stopcocklaw05_BasinAll.k4 (t5 : Option Addr) (t7 : Option Addr) (t9 : Option Addr) (t13p : Option Addr) (t13n : Nat) (t13c : Nat) (w : World) (R : Ending → World → Prop) : Prop :=
  callP Try.prog 8 #[(Value.int .i64 10)] w (fun v23 w49 =>
    dT v23 fun vs4 =>
    optP (vs4[0]?) fun v24 =>
    dP v24 fun p9 =>
    optP (vs4[1]?) fun v25 =>
    dI .i64 v25 fun x16 =>
    stopcocklaw05_BasinAll.l3 t5 t7 t9 t13p t13n t13c p9 x16 0 w49 R) (fun ch w50 => R (.panicked ch) w50)
def stopcocklaw05_BasinAll.b2 (t1p : Option Addr) (t1n : Nat) (t1c : Nat) (t5 : Option Addr) (t7 : Option Addr) (t9 : Option Addr) (t13p : Option Addr) (t13n : Nat) (t13c : Nat) (t14 : Int) (w : World) (R : Ending → World → Prop) (C2 : Option Addr → Nat → Nat → Option Addr → Option Addr → Option Addr → Option Addr → Nat → Nat → Int → World → Prop) : Prop :=
  cond (decide (t14 < ((t1n : Nat) : Int))) (
    cond (decide (t14 < 40)) (
      chk (decide (0 ≤ t14)) (
        chk (decide (t14 < ((t1n : Nat) : Int))) (
          optP t1p fun d3 =>
          ∃ (x12 : Int), w.drew.cell? (d3.add (t14.toNat * 1)) = some (Value.int .u8 x12) ∧
          (chk (decide (0 ≤ t14)) (
              chk (decide (t14 < ((t1n : Nat) : Int))) (
                optP t1p fun d4 =>
                ∃ (x13 : Int), w.drew.cell? (d4.add (t14.toNat * 1)) = some (Value.int .u8 x13) ∧
                ((callP Try.prog 11 #[(Value.int .u8 x13)] w.drew (fun v19 w33 =>
                      dS v19 fun p6 n3 c3 =>
                      w33.cell? (d3.add (t14.toNat * 1)) = some (Value.int .u8 x12) ∧
                      (newP w33 #[(Value.int .i64 0), (Value.slice none 0 0)] 32 fun b8 w35 =>
                        (Value.agg #[(Value.int .i64 (IntKind.i64.wrap (Int.tmod x12 10))), (Value.slice p6 n3 c3)]) = (Value.agg #[(Value.int .i64 (IntKind.i64.wrap (Int.tmod x12 10))), (Value.slice p6 n3 c3)]) ∧
                        (w35.cell? (d3.add (t14.toNat * 1)) = some (Value.int .u8 x12) ∧
                          (Wr w35 (⟨b8, 0, none⟩ : Addr) [(Value.int .i64 (IntKind.i64.wrap (Int.tmod x12 10))), (Value.slice p6 n3 c3)] ∧ ∀ w36, w36 = w35.setCells (⟨b8, 0, none⟩ : Addr).block (⟨b8, 0, none⟩ : Addr).off [(Value.int .i64 (IntKind.i64.wrap (Int.tmod x12 10))), (Value.slice p6 n3 c3)] →
                          (stopcocklaw05_BasinAll.k3 t1p t1n t1c t5 t7 t9 t13p t13n t13c t14 b8 t14 (decide (t14 < 40)) w36 R C2))))) (fun ch w34 => R (.panicked ch) w34)) ∧
                  (newP w.drew #[(Value.int .i64 0), (Value.slice none 0 0)] 32 fun b9 w37 =>
                    w37.cell? (d4.add (t14.toNat * 1)) = some (Value.int .u8 x13) ∧
                    (w37.cell? (d3.add (t14.toNat * 1)) = some (Value.int .u8 x12) ∧
                      (callP Try.prog 11 #[(Value.int .u8 x13)] w37 (fun v20 w38 =>
                          dS v20 fun p7 n4 c4 =>
                          w38.cell? (d3.add (t14.toNat * 1)) = some (Value.int .u8 x12) ∧
                          (Wr w38 (⟨b9, 0, none⟩ : Addr) [(Value.int .i64 (IntKind.i64.wrap (Int.tmod x12 10))), (Value.slice p7 n4 c4)] ∧ ∀ w40, w40 = w38.setCells (⟨b9, 0, none⟩ : Addr).block (⟨b9, 0, none⟩ : Addr).off [(Value.int .i64 (IntKind.i64.wrap (Int.tmod x12 10))), (Value.slice p7 n4 c4)] →
                          (stopcocklaw05_BasinAll.k3 t1p t1n t1c t5 t7 t9 t13p t13n t13c t14 b9 t14 (decide (t14 < 40)) w40 R C2))) (fun ch w39 => R (.panicked ch) w39))))))))))) (
      stopcocklaw05_BasinAll.k4 t5 t7 t9 t13p t13n t13c w R)) (
    stopcocklaw05_BasinAll.k4 t5 t7 t9 t13p t13n t13c w R)
def stopcocklaw05_BasinAll.l2 (t1p : Option Addr) (t1n : Nat) (t1c : Nat) (t5 : Option Addr) (t7 : Option Addr) (t9 : Option Addr) (t13p : Option Addr) (t13n : Nat) (t13c : Nat) (t14 : Int) (w : World) (R : Ending → World → Prop) : Prop :=
  ∃ (I : Option Addr → Nat → Nat → Option Addr → Option Addr → Option Addr → Option Addr → Nat → Nat → Int → World → Prop) (m : Option Addr → Nat → Nat → Option Addr → Option Addr → Option Addr → Option Addr → Nat → Nat → Int → World → Nat), I t1p t1n t1c t5 t7 t9 t13p t13n t13c t14 w ∧
  ∀ (t1p : Option Addr) (t1n : Nat) (t1c : Nat) (t5 : Option Addr) (t7 : Option Addr) (t9 : Option Addr) (t13p : Option Addr) (t13n : Nat) (t13c : Nat) (t14 : Int) (w : World), I t1p t1n t1c t5 t7 t9 t13p t13n t13c t14 w →
  stopcocklaw05_BasinAll.b2 t1p t1n t1c t5 t7 t9 t13p t13n t13c t14 w R (fun t1p' t1n' t1c' t5' t7' t9' t13p' t13n' t13c' t14' w' => I t1p' t1n' t1c' t5' t7' t9' t13p' t13n' t13c' t14' w' ∧ m t1p' t1n' t1c' t5' t7' t9' t13p' t13n' t13c' t14' w' < m t1p t1n t1c t5 t7 t9 t13p t13n t13c t14 w)
def stopcocklaw05_BasinAll.k2 (t1p : Option Addr) (t1n : Nat) (t1c : Nat) (t5 : Option Addr) (t7 : Option Addr) (t9 : Option Addr) (w : World) (R : Ending → World → Prop) : Prop :=
  callP Try.prog 12 #[(Value.pointer t5)] w (fun v16 w26 =>
    dI .i64 v16 fun x9 =>
    cond (x9 != 0) (
      R (.returned (Value.bool false)) w26) (
      callP Try.prog 12 #[(Value.pointer t7)] w26 (fun v17 w28 =>
        dI .i64 v17 fun x10 =>
        cond (x10 != 0) (
          R (.returned (Value.bool false)) w28) (
          callP Try.prog 12 #[(Value.pointer t9)] w28 (fun v18 w30 =>
            dI .i64 v18 fun x11 =>
            cond (x11 != 0) (
              R (.returned (Value.bool false)) w30) (
              newP w30 #[] 3 fun b7 w32 =>
              stopcocklaw05_BasinAll.l2 t1p t1n t1c t5 t7 t9 (some ⟨b7, 0, none⟩) 0 0 0 w32 R)) (fun ch w31 => R (.panicked ch) w31))) (fun ch w29 => R (.panicked ch) w29))) (fun ch w27 => R (.panicked ch) w27)
def stopcocklaw05_BasinAll.b1 (t0p : Option Addr) (t0n : Nat) (t0c : Nat) (t1p : Option Addr) (t1n : Nat) (t1c : Nat) (t5 : Option Addr) (t7 : Option Addr) (t9 : Option Addr) (t11 : Int) (w : World) (R : Ending → World → Prop) (C1 : Option Addr → Nat → Nat → Option Addr → Nat → Nat → Option Addr → Option Addr → Option Addr → Int → World → Prop) : Prop :=
  cond (decide (t11 < ((t0n : Nat) : Int))) (
    cond (decide (t11 < 40)) (
      chk (decide (0 ≤ t11)) (
        chk (decide (t11 < ((t0n : Nat) : Int))) (
          optP t0p fun d1 =>
          ∃ (x4 : Int), w.drew.cell? (d1.add (t11.toNat * 1)) = some (Value.int .u8 x4) ∧
          (chk (decide (0 ≤ t11)) (
              chk (decide (t11 < ((t0n : Nat) : Int))) (
                optP t0p fun d2 =>
                ∃ (x5 : Int), w.drew.cell? (d2.add (t11.toNat * 1)) = some (Value.int .u8 x5) ∧
                ((callP Try.prog 11 #[(Value.int .u8 x5)] w.drew (fun v11 w9 =>
                      dS v11 fun p4 n1 c1 =>
                      w9.cell? (d1.add (t11.toNat * 1)) = some (Value.int .u8 x4) ∧
                      (newP w9 #[(Value.int .i64 0), (Value.slice none 0 0)] 32 fun b2 w11 =>
                        (Value.agg #[(Value.int .i64 (IntKind.i64.wrap (Int.tmod x4 10))), (Value.slice p4 n1 c1)]) = (Value.agg #[(Value.int .i64 (IntKind.i64.wrap (Int.tmod x4 10))), (Value.slice p4 n1 c1)]) ∧
                        (w11.cell? (d1.add (t11.toNat * 1)) = some (Value.int .u8 x4) ∧
                          (Wr w11 (⟨b2, 0, none⟩ : Addr) [(Value.int .i64 (IntKind.i64.wrap (Int.tmod x4 10))), (Value.slice p4 n1 c1)] ∧ ∀ w12, w12 = w11.setCells (⟨b2, 0, none⟩ : Addr).block (⟨b2, 0, none⟩ : Addr).off [(Value.int .i64 (IntKind.i64.wrap (Int.tmod x4 10))), (Value.slice p4 n1 c1)] →
                          (stopcocklaw05_BasinAll.k1 t0p t0n t0c t1p t1n t1c t5 t7 t9 t11 b2 t11 (decide (t11 < 40)) w12 R C1))))) (fun ch w10 => R (.panicked ch) w10)) ∧
                  (newP w.drew #[(Value.int .i64 0), (Value.slice none 0 0)] 32 fun b3 w13 =>
                    w13.cell? (d2.add (t11.toNat * 1)) = some (Value.int .u8 x5) ∧
                    (w13.cell? (d1.add (t11.toNat * 1)) = some (Value.int .u8 x4) ∧
                      (callP Try.prog 11 #[(Value.int .u8 x5)] w13 (fun v12 w14 =>
                          dS v12 fun p5 n2 c2 =>
                          w14.cell? (d1.add (t11.toNat * 1)) = some (Value.int .u8 x4) ∧
                          (Wr w14 (⟨b3, 0, none⟩ : Addr) [(Value.int .i64 (IntKind.i64.wrap (Int.tmod x4 10))), (Value.slice p5 n2 c2)] ∧ ∀ w16, w16 = w14.setCells (⟨b3, 0, none⟩ : Addr).block (⟨b3, 0, none⟩ : Addr).off [(Value.int .i64 (IntKind.i64.wrap (Int.tmod x4 10))), (Value.slice p5 n2 c2)] →
                          (stopcocklaw05_BasinAll.k1 t0p t0n t0c t1p t1n t1c t5 t7 t9 t11 b3 t11 (decide (t11 < 40)) w16 R C1))) (fun ch w15 => R (.panicked ch) w15))))))))))) (
      stopcocklaw05_BasinAll.k2 t1p t1n t1c t5 t7 t9 w R)) (
    stopcocklaw05_BasinAll.k2 t1p t1n t1c t5 t7 t9 w R)
def stopcocklaw05_BasinAll.l1 (t0p : Option Addr) (t0n : Nat) (t0c : Nat) (t1p : Option Addr) (t1n : Nat) (t1c : Nat) (t5 : Option Addr) (t7 : Option Addr) (t9 : Option Addr) (t11 : Int) (w : World) (R : Ending → World → Prop) : Prop :=
  ∃ (I : Option Addr → Nat → Nat → Option Addr → Nat → Nat → Option Addr → Option Addr → Option Addr → Int → World → Prop) (m : Option Addr → Nat → Nat → Option Addr → Nat → Nat → Option Addr → Option Addr → Option Addr → Int → World → Nat), I t0p t0n t0c t1p t1n t1c t5 t7 t9 t11 w ∧
  ∀ (t0p : Option Addr) (t0n : Nat) (t0c : Nat) (t1p : Option Addr) (t1n : Nat) (t1c : Nat) (t5 : Option Addr) (t7 : Option Addr) (t9 : Option Addr) (t11 : Int) (w : World), I t0p t0n t0c t1p t1n t1c t5 t7 t9 t11 w →
  stopcocklaw05_BasinAll.b1 t0p t0n t0c t1p t1n t1c t5 t7 t9 t11 w R (fun t0p' t0n' t0c' t1p' t1n' t1c' t5' t7' t9' t11' w' => I t0p' t0n' t0c' t1p' t1n' t1c' t5' t7' t9' t11' w' ∧ m t0p' t0n' t0c' t1p' t1n' t1c' t5' t7' t9' t11' w' < m t0p t0n t0c t1p t1n t1c t5 t7 t9 t11 w)
def stopcocklaw05_BasinAll.main (a0p : Option Addr) (a0n : Nat) (a0c : Nat) (a1p : Option Addr) (a1n : Nat) (a1c : Nat) (w : World) (R : Ending → World → Prop) : Prop :=
  callP Try.prog 8 #[(Value.int .i64 10)] w (fun v1 w1 =>
    dT v1 fun vs1 =>
    optP (vs1[0]?) fun v2 =>
    dP v2 fun p1 =>
    optP (vs1[1]?) fun v3 =>
    dI .i64 v3 fun x1 =>
    callP Try.prog 8 #[(Value.int .i64 10)] w1 (fun v4 w3 =>
      dT v4 fun vs2 =>
      optP (vs2[0]?) fun v5 =>
      dP v5 fun p2 =>
      optP (vs2[1]?) fun v6 =>
      dI .i64 v6 fun x2 =>
      callP Try.prog 8 #[(Value.int .i64 10)] w3 (fun v7 w5 =>
        dT v7 fun vs3 =>
        optP (vs3[0]?) fun v8 =>
        dP v8 fun p3 =>
        optP (vs3[1]?) fun v9 =>
        dI .i64 v9 fun x3 =>
        callP Try.prog 9 #[] w5 (fun v10 w7 =>
          dB v10 fun b1 =>
          cond (!b1) (
            R (.returned (Value.bool false)) w7) (
            cond (x1 != 0) (
              R (.returned (Value.bool false)) w7) (
              cond (x2 != 0) (
                R (.returned (Value.bool false)) w7) (
                cond (x3 != 0) (
                  R (.returned (Value.bool false)) w7) (
                  stopcocklaw05_BasinAll.l1 a0p a0n a0c a1p a1n a1c p1 p2 p3 0 w7 R))))) (fun ch w8 => R (.panicked ch) w8)) (fun ch w6 => R (.panicked ch) w6)) (fun ch w4 => R (.panicked ch) w4)) (fun ch w2 => R (.panicked ch) w2)
abbrev stopcocklaw05_BasinAll.C (a0p : Option Addr) (a0n : Nat) (a0c : Nat) (a1p : Option Addr) (a1n : Nat) (a1c : Nat) (w : World) (R : Ending → World → Prop) : Prop := Calls Try.prog 4 #[(Value.slice a0p a0n a0c), (Value.slice a1p a1n a1c)] w R
noncomputable def stopcocklaw05_BasinAll.code : Code := (Try.f4.body).getD .skip
noncomputable def stopcocklaw05_BasinAll.sk (R : Ending → World → Prop) : Sk := (.seq .leaf (.seq .leaf (.seq .leaf (.seq .leaf (.seq .leaf (.cut [(1, .slice), (5, .ptr), (7, .ptr), (9, .ptr)] (fun (t1p : Option Addr) (t1n : Nat) (t1c : Nat) (t5 : Option Addr) (t7 : Option Addr) (t9 : Option Addr) (w : World) => stopcocklaw05_BasinAll.k2 t1p t1n t1c t5 t7 t9 w R) (.seq .leaf (.block (.loop [(0, .slice), (1, .slice), (5, .ptr), (7, .ptr), (9, .ptr), (11, .int .i64)] (fun (t0p : Option Addr) (t0n : Nat) (t0c : Nat) (t1p : Option Addr) (t1n : Nat) (t1c : Nat) (t5 : Option Addr) (t7 : Option Addr) (t9 : Option Addr) (t11 : Int) (w : World) => stopcocklaw05_BasinAll.l1 t0p t0n t0c t1p t1n t1c t5 t7 t9 t11 w R) (fun (C1 : Option Addr → Nat → Nat → Option Addr → Nat → Nat → Option Addr → Option Addr → Option Addr → Int → World → Prop) => (.seq .leaf (.seq (.block (.cut [(0, .slice), (1, .slice), (5, .ptr), (7, .ptr), (9, .ptr), (11, .int .i64), (12, .blk), (63, .int .i64), (64, .bool)] (fun (t0p : Option Addr) (t0n : Nat) (t0c : Nat) (t1p : Option Addr) (t1n : Nat) (t1c : Nat) (t5 : Option Addr) (t7 : Option Addr) (t9 : Option Addr) (t11 : Int) (t12 : Nat) (t63 : Int) (t64 : Bool) (w : World) => stopcocklaw05_BasinAll.k1 t0p t0n t0c t1p t1n t1c t5 t7 t9 t11 t12 t63 t64 w R C1) .leaf .leaf)) .leaf)))))) (.seq .leaf (.seq .leaf (.cut [(5, .ptr), (7, .ptr), (9, .ptr), (13, .slice)] (fun (t5 : Option Addr) (t7 : Option Addr) (t9 : Option Addr) (t13p : Option Addr) (t13n : Nat) (t13c : Nat) (w : World) => stopcocklaw05_BasinAll.k4 t5 t7 t9 t13p t13n t13c w R) (.seq .leaf (.block (.loop [(1, .slice), (5, .ptr), (7, .ptr), (9, .ptr), (13, .slice), (14, .int .i64)] (fun (t1p : Option Addr) (t1n : Nat) (t1c : Nat) (t5 : Option Addr) (t7 : Option Addr) (t9 : Option Addr) (t13p : Option Addr) (t13n : Nat) (t13c : Nat) (t14 : Int) (w : World) => stopcocklaw05_BasinAll.l2 t1p t1n t1c t5 t7 t9 t13p t13n t13c t14 w R) (fun (C2 : Option Addr → Nat → Nat → Option Addr → Option Addr → Option Addr → Option Addr → Nat → Nat → Int → World → Prop) => (.seq .leaf (.seq (.block (.cut [(1, .slice), (5, .ptr), (7, .ptr), (9, .ptr), (13, .slice), (14, .int .i64), (15, .blk), (118, .int .i64), (119, .bool)] (fun (t1p : Option Addr) (t1n : Nat) (t1c : Nat) (t5 : Option Addr) (t7 : Option Addr) (t9 : Option Addr) (t13p : Option Addr) (t13n : Nat) (t13c : Nat) (t14 : Int) (t15 : Nat) (t118 : Int) (t119 : Bool) (w : World) => stopcocklaw05_BasinAll.k3 t1p t1n t1c t5 t7 t9 t13p t13n t13c t14 t15 t118 t119 w R C2) .leaf .leaf)) .leaf)))))) (.seq .leaf (.cut [(5, .ptr), (7, .ptr), (13, .slice), (16, .ptr)] (fun (t5 : Option Addr) (t7 : Option Addr) (t13p : Option Addr) (t13n : Nat) (t13c : Nat) (t16 : Option Addr) (w : World) => stopcocklaw05_BasinAll.k5 t5 t7 t13p t13n t13c t16 w R) (.seq .leaf (.block (.loop [(5, .ptr), (7, .ptr), (9, .ptr), (13, .slice), (16, .ptr), (17, .int .i64), (18, .int .i64)] (fun (t5 : Option Addr) (t7 : Option Addr) (t9 : Option Addr) (t13p : Option Addr) (t13n : Nat) (t13c : Nat) (t16 : Option Addr) (t17 : Int) (t18 : Int) (w : World) => stopcocklaw05_BasinAll.l3 t5 t7 t9 t13p t13n t13c t16 t17 t18 w R) (fun (C3 : Option Addr → Option Addr → Option Addr → Option Addr → Nat → Nat → Option Addr → Int → Int → World → Prop) => .leaf)))) (.seq .leaf (.seq .leaf (.cut [(5, .ptr), (7, .ptr), (13, .slice), (16, .ptr), (21, .int .i64)] (fun (t5 : Option Addr) (t7 : Option Addr) (t13p : Option Addr) (t13n : Nat) (t13c : Nat) (t16 : Option Addr) (t21 : Int) (w : World) => stopcocklaw05_BasinAll.k6 t5 t7 t13p t13n t13c t16 t21 w R) (.seq .leaf (.block (.loop [(5, .ptr), (7, .ptr), (13, .slice), (16, .ptr), (21, .int .i64), (22, .int .i64)] (fun (t5 : Option Addr) (t7 : Option Addr) (t13p : Option Addr) (t13n : Nat) (t13c : Nat) (t16 : Option Addr) (t21 : Int) (t22 : Int) (w : World) => stopcocklaw05_BasinAll.l4 t5 t7 t13p t13n t13c t16 t21 t22 w R) (fun (C4 : Option Addr → Option Addr → Option Addr → Nat → Nat → Option Addr → Int → Int → World → Prop) => .leaf)))) (.seq .leaf (.cut [(5, .ptr), (13, .slice), (21, .int .i64)] (fun (t5 : Option Addr) (t13p : Option Addr) (t13n : Nat) (t13c : Nat) (t21 : Int) (w : World) => stopcocklaw05_BasinAll.k7 t5 t13p t13n t13c t21 w R) (.seq .leaf (.block (.loop [(5, .ptr), (7, .ptr), (13, .slice), (16, .ptr), (21, .int .i64), (27, .int .i64)] (fun (t5 : Option Addr) (t7 : Option Addr) (t13p : Option Addr) (t13n : Nat) (t13c : Nat) (t16 : Option Addr) (t21 : Int) (t27 : Int) (w : World) => stopcocklaw05_BasinAll.l5 t5 t7 t13p t13n t13c t16 t21 t27 w R) (fun (C5 : Option Addr → Option Addr → Option Addr → Nat → Nat → Option Addr → Int → Int → World → Prop) => .leaf)))) .leaf))))))))))))))))
def stopcocklaw05_BasinAll.owed (R : Ending → World → Prop) : Prop :=
  (∀ (t0p : Option Addr) (t0n : Nat) (t0c : Nat) (t1p : Option Addr) (t1n : Nat) (t1c : Nat) (t5 : Option Addr) (t7 : Option Addr) (t9 : Option Addr) (t11 : Int) (w : World), stopcocklaw05_BasinAll.l1 t0p t0n t0c t1p t1n t1c t5 t7 t9 t11 w R → stopcocklaw05_BasinAll.l1 t0p t0n t0c t1p t1n t1c t5 t7 t9 t11 w R) ∧ (∀ (C1 : Option Addr → Nat → Nat → Option Addr → Nat → Nat → Option Addr → Option Addr → Option Addr → Int → World → Prop), (∀ (t0p : Option Addr) (t0n : Nat) (t0c : Nat) (t1p : Option Addr) (t1n : Nat) (t1c : Nat) (t5 : Option Addr) (t7 : Option Addr) (t9 : Option Addr) (t11 : Int) (t12 : Nat) (t63 : Int) (t64 : Bool) (w : World), stopcocklaw05_BasinAll.k1 t0p t0n t0c t1p t1n t1c t5 t7 t9 t11 t12 t63 t64 w R C1 → stopcocklaw05_BasinAll.k1 t0p t0n t0c t1p t1n t1c t5 t7 t9 t11 t12 t63 t64 w R C1) ∧ True) ∧ (∀ (t1p : Option Addr) (t1n : Nat) (t1c : Nat) (t5 : Option Addr) (t7 : Option Addr) (t9 : Option Addr) (w : World), stopcocklaw05_BasinAll.k2 t1p t1n t1c t5 t7 t9 w R → stopcocklaw05_BasinAll.k2 t1p t1n t1c t5 t7 t9 w R) ∧ (∀ (t1p : Option Addr) (t1n : Nat) (t1c : Nat) (t5 : Option Addr) (t7 : Option Addr) (t9 : Option Addr) (t13p : Option Addr) (t13n : Nat) (t13c : Nat) (t14 : Int) (w : World), stopcocklaw05_BasinAll.l2 t1p t1n t1c t5 t7 t9 t13p t13n t13c t14 w R → stopcocklaw05_BasinAll.l2 t1p t1n t1c t5 t7 t9 t13p t13n t13c t14 w R) ∧ (∀ (C2 : Option Addr → Nat → Nat → Option Addr → Option Addr → Option Addr → Option Addr → Nat → Nat → Int → World → Prop), (∀ (t1p : Option Addr) (t1n : Nat) (t1c : Nat) (t5 : Option Addr) (t7 : Option Addr) (t9 : Option Addr) (t13p : Option Addr) (t13n : Nat) (t13c : Nat) (t14 : Int) (t15 : Nat) (t118 : Int) (t119 : Bool) (w : World), stopcocklaw05_BasinAll.k3 t1p t1n t1c t5 t7 t9 t13p t13n t13c t14 t15 t118 t119 w R C2 → stopcocklaw05_BasinAll.k3 t1p t1n t1c t5 t7 t9 t13p t13n t13c t14 t15 t118 t119 w R C2) ∧ True) ∧ (∀ (t5 : Option Addr) (t7 : Option Addr) (t9 : Option Addr) (t13p : Option Addr) (t13n : Nat) (t13c : Nat) (w : World), stopcocklaw05_BasinAll.k4 t5 t7 t9 t13p t13n t13c w R → stopcocklaw05_BasinAll.k4 t5 t7 t9 t13p t13n t13c w R) ∧ (∀ (t5 : Option Addr) (t7 : Option Addr) (t9 : Option Addr) (t13p : Option Addr) (t13n : Nat) (t13c : Nat) (t16 : Option Addr) (t17 : Int) (t18 : Int) (w : World), stopcocklaw05_BasinAll.l3 t5 t7 t9 t13p t13n t13c t16 t17 t18 w R → stopcocklaw05_BasinAll.l3 t5 t7 t9 t13p t13n t13c t16 t17 t18 w R) ∧ (∀ (C3 : Option Addr → Option Addr → Option Addr → Option Addr → Nat → Nat → Option Addr → Int → Int → World → Prop), True) ∧ (∀ (t5 : Option Addr) (t7 : Option Addr) (t13p : Option Addr) (t13n : Nat) (t13c : Nat) (t16 : Option Addr) (w : World), stopcocklaw05_BasinAll.k5 t5 t7 t13p t13n t13c t16 w R → stopcocklaw05_BasinAll.k5 t5 t7 t13p t13n t13c t16 w R) ∧ (∀ (t5 : Option Addr) (t7 : Option Addr) (t13p : Option Addr) (t13n : Nat) (t13c : Nat) (t16 : Option Addr) (t21 : Int) (t22 : Int) (w : World), stopcocklaw05_BasinAll.l4 t5 t7 t13p t13n t13c t16 t21 t22 w R → stopcocklaw05_BasinAll.l4 t5 t7 t13p t13n t13c t16 t21 t22 w R) ∧ (∀ (C4 : Option Addr → Option Addr → Option Addr → Nat → Nat → Option Addr → Int → Int → World → Prop), True) ∧ (∀ (t5 : Option Addr) (t7 : Option Addr) (t13p : Option Addr) (t13n : Nat) (t13c : Nat) (t16 : Option Addr) (t21 : Int) (w : World), stopcocklaw05_BasinAll.k6 t5 t7 t13p t13n t13c t16 t21 w R → stopcocklaw05_BasinAll.k6 t5 t7 t13p t13n t13c t16 t21 w R) ∧ (∀ (t5 : Option Addr) (t7 : Option Addr) (t13p : Option Addr) (t13n : Nat) (t13c : Nat) (t16 : Option Addr) (t21 : Int) (t27 : Int) (w : World), stopcocklaw05_BasinAll.l5 t5 t7 t13p t13n t13c t16 t21 t27 w R → stopcocklaw05_BasinAll.l5 t5 t7 t13p t13n t13c t16 t21 t27 w R) ∧ (∀ (C5 : Option Addr → Option Addr → Option Addr → Nat → Nat → Option Addr → Int → Int → World → Prop), True) ∧ (∀ (t5 : Option Addr) (t13p : Option Addr) (t13n : Nat) (t13c : Nat) (t21 : Int) (w : World), stopcocklaw05_BasinAll.k7 t5 t13p t13n t13c t21 w R → stopcocklaw05_BasinAll.k7 t5 t13p t13n t13c t21 w R) ∧ True
theorem stopcocklaw05_BasinAll.pays (R : Ending → World → Prop) : stopcocklaw05_BasinAll.owed R := ⟨(fun _ _ _ _ _ _ _ _ _ _ _ h => h), (fun _ => ⟨(fun _ _ _ _ _ _ _ _ _ _ _ _ _ _ h => h), trivial⟩), (fun _ _ _ _ _ _ _ h => h), (fun _ _ _ _ _ _ _ _ _ _ _ h => h), (fun _ => ⟨(fun _ _ _ _ _ _ _ _ _ _ _ _ _ _ h => h), trivial⟩), (fun _ _ _ _ _ _ _ h => h), (fun _ _ _ _ _ _ _ _ _ _ h => h), (fun _ => trivial), (fun _ _ _ _ _ _ _ h => h), (fun _ _ _ _ _ _ _ _ _ h => h), (fun _ => trivial), (fun _ _ _ _ _ _ _ _ h => h), (fun _ _ _ _ _ _ _ _ _ h => h), (fun _ => trivial), (fun _ _ _ _ _ _ h => h), trivial⟩
set_option maxRecDepth 100000 in
theorem stopcocklaw05_BasinAll.ok {a0p : Option Addr} {a0n : Nat} {a0c : Nat} {a1p : Option Addr} {a1n : Nat} {a1c : Nat} {w : World} {R : Ending → World → Prop} (h : stopcocklaw05_BasinAll.main a0p a0n a0c a1p a1n a1c w R) : stopcocklaw05_BasinAll.C a0p a0n a0c a1p a1n a1c w R :=
  ev_ok cxok (c := cx) Try.func4 (code := stopcocklaw05_BasinAll.code) (by kernel_rfl) [.tmp 4] (by kernel_rfl) 238 (by kernel_rfl) (stopcocklaw05_BasinAll.sk R) (args := [(Value.slice a0p a0n a0c), (Value.slice a1p a1n a1c)]) (Nat.le_of_ble_eq_true rfl) (by kernel_rfl) (o := stopcocklaw05_BasinAll.owed R) (by kernel_rfl) (stopcocklaw05_BasinAll.pays R) h

/-! ### slices.IndexFunc[[]stopcock/api.Write,stopcock/api.Write]: function 32 -/
def api_Write_f25.b1 (t0p : Option Addr) (t0n : Nat) (t0c : Nat) (t7 : Int) (t8 : Int) (w : World) (R : Ending → World → Prop) (C1 : Option Addr → Nat → Nat → Int → Int → World → Prop) : Prop :=
  cond (decide (t8 < t7)) (
    chk (decide (0 ≤ t8)) (
      chk (decide (t8 < ((t0n : Nat) : Int))) (
        optP t0p fun d1 =>
        ∃ (cs1 : Array Value), cs1.size = 2 ∧ CellsAt w (d1.add (t8.toNat * 2)) cs1.toList ∧
        (callP Try.prog 25 #[(Value.agg cs1)] w (fun v1 w1 =>
            dB v1 fun b1 =>
            cond b1 (
              R (.returned (Value.int .i64 t8)) w1) (
              C1 t0p t0n t0c t7 (IntKind.i64.wrap (t8 + 1)) w1)) (fun ch w2 => R (.panicked ch) w2))))) (
    R (.returned (Value.int .i64 (-1))) w)
def api_Write_f25.l1 (t0p : Option Addr) (t0n : Nat) (t0c : Nat) (t7 : Int) (t8 : Int) (w : World) (R : Ending → World → Prop) : Prop :=
  ∃ (I : Option Addr → Nat → Nat → Int → Int → World → Prop) (m : Option Addr → Nat → Nat → Int → Int → World → Nat), I t0p t0n t0c t7 t8 w ∧
  ∀ (t0p : Option Addr) (t0n : Nat) (t0c : Nat) (t7 : Int) (t8 : Int) (w : World), I t0p t0n t0c t7 t8 w →
  api_Write_f25.b1 t0p t0n t0c t7 t8 w R (fun t0p' t0n' t0c' t7' t8' w' => I t0p' t0n' t0c' t7' t8' w' ∧ m t0p' t0n' t0c' t7' t8' w' < m t0p t0n t0c t7 t8 w)
def api_Write_f25.main (a0p : Option Addr) (a0n : Nat) (a0c : Nat) (w : World) (R : Ending → World → Prop) : Prop :=
  api_Write_f25.l1 a0p a0n a0c ((a0n : Nat) : Int) 0 w R
abbrev api_Write_f25.C (a0p : Option Addr) (a0n : Nat) (a0c : Nat) (w : World) (R : Ending → World → Prop) : Prop := Calls Try.prog 32 #[(Value.slice a0p a0n a0c), (Value.func (.func 25) #[] #[])] w R
noncomputable def api_Write_f25.code : Code := (Try.f32.body).getD .skip
noncomputable def api_Write_f25.sk (R : Ending → World → Prop) : Sk := (.seq .leaf (.seq (.seq .leaf (.block (.loop [(0, .slice), (1, .fn0 25), (7, .int .i64), (8, .int .i64)] (fun (t0p : Option Addr) (t0n : Nat) (t0c : Nat) (t7 : Int) (t8 : Int) (w : World) => api_Write_f25.l1 t0p t0n t0c t7 t8 w R) (fun (C1 : Option Addr → Nat → Nat → Int → Int → World → Prop) => .leaf)))) .leaf))
def api_Write_f25.owed (R : Ending → World → Prop) : Prop :=
  (∀ (t0p : Option Addr) (t0n : Nat) (t0c : Nat) (t7 : Int) (t8 : Int) (w : World), api_Write_f25.l1 t0p t0n t0c t7 t8 w R → api_Write_f25.l1 t0p t0n t0c t7 t8 w R) ∧ (∀ (C1 : Option Addr → Nat → Nat → Int → Int → World → Prop), True) ∧ True
theorem api_Write_f25.pays (R : Ending → World → Prop) : api_Write_f25.owed R := ⟨(fun _ _ _ _ _ _ h => h), (fun _ => trivial), trivial⟩
set_option maxRecDepth 100000 in
theorem api_Write_f25.ok {a0p : Option Addr} {a0n : Nat} {a0c : Nat} {w : World} {R : Ending → World → Prop} (h : api_Write_f25.main a0p a0n a0c w R) : api_Write_f25.C a0p a0n a0c w R :=
  ev_ok cxok (c := cx) Try.func32 (code := api_Write_f25.code) (by kernel_rfl) [.tmp 4] (by kernel_rfl) 19 (by kernel_rfl) (api_Write_f25.sk R) (args := [(Value.slice a0p a0n a0c), (Value.func (.func 25) #[] #[])]) (Nat.le_of_ble_eq_true rfl) (by kernel_rfl) (o := api_Write_f25.owed R) (by kernel_rfl) (api_Write_f25.pays R) h

/-! ### slices.IndexFunc[[]stopcock/api.Write,stopcock/api.Write]: function 32 -/
def api_Write_f26.b1 (t0p : Option Addr) (t0n : Nat) (t0c : Nat) (t1 : Nat) (t7 : Int) (t8 : Int) (w : World) (R : Ending → World → Prop) (C1 : Option Addr → Nat → Nat → Nat → Int → Int → World → Prop) : Prop :=
  cond (decide (t8 < t7)) (
    chk (decide (0 ≤ t8)) (
      chk (decide (t8 < ((t0n : Nat) : Int))) (
        optP t0p fun d1 =>
        ∃ (cs1 : Array Value), cs1.size = 2 ∧ CellsAt w (d1.add (t8.toNat * 2)) cs1.toList ∧
        (callP Try.prog 26 #[(Value.agg cs1), (Value.pointer (some (⟨t1, 0, none⟩ : Addr)))] w (fun v1 w1 =>
            dB v1 fun b1 =>
            cond b1 (
              R (.returned (Value.int .i64 t8)) w1) (
              C1 t0p t0n t0c t1 t7 (IntKind.i64.wrap (t8 + 1)) w1)) (fun ch w2 => R (.panicked ch) w2))))) (
    R (.returned (Value.int .i64 (-1))) w)
def api_Write_f26.l1 (t0p : Option Addr) (t0n : Nat) (t0c : Nat) (t1 : Nat) (t7 : Int) (t8 : Int) (w : World) (R : Ending → World → Prop) : Prop :=
  ∃ (I : Option Addr → Nat → Nat → Nat → Int → Int → World → Prop) (m : Option Addr → Nat → Nat → Nat → Int → Int → World → Nat), I t0p t0n t0c t1 t7 t8 w ∧
  ∀ (t0p : Option Addr) (t0n : Nat) (t0c : Nat) (t1 : Nat) (t7 : Int) (t8 : Int) (w : World), I t0p t0n t0c t1 t7 t8 w →
  api_Write_f26.b1 t0p t0n t0c t1 t7 t8 w R (fun t0p' t0n' t0c' t1' t7' t8' w' => I t0p' t0n' t0c' t1' t7' t8' w' ∧ m t0p' t0n' t0c' t1' t7' t8' w' < m t0p t0n t0c t1 t7 t8 w)
def api_Write_f26.main (a0p : Option Addr) (a0n : Nat) (a0c : Nat) (a1q0 : Nat) (w : World) (R : Ending → World → Prop) : Prop :=
  api_Write_f26.l1 a0p a0n a0c a1q0 ((a0n : Nat) : Int) 0 w R
abbrev api_Write_f26.C (a0p : Option Addr) (a0n : Nat) (a0c : Nat) (a1q0 : Nat) (w : World) (R : Ending → World → Prop) : Prop := Calls Try.prog 32 #[(Value.slice a0p a0n a0c), (Value.func (.func 26) #[] #[(Value.pointer (some (⟨a1q0, 0, none⟩ : Addr)))])] w R
noncomputable def api_Write_f26.code : Code := (Try.f32.body).getD .skip
noncomputable def api_Write_f26.sk (R : Ending → World → Prop) : Sk := (.seq .leaf (.seq (.seq .leaf (.block (.loop [(0, .slice), (1, .fn1 26), (7, .int .i64), (8, .int .i64)] (fun (t0p : Option Addr) (t0n : Nat) (t0c : Nat) (t1 : Nat) (t7 : Int) (t8 : Int) (w : World) => api_Write_f26.l1 t0p t0n t0c t1 t7 t8 w R) (fun (C1 : Option Addr → Nat → Nat → Nat → Int → Int → World → Prop) => .leaf)))) .leaf))
def api_Write_f26.owed (R : Ending → World → Prop) : Prop :=
  (∀ (t0p : Option Addr) (t0n : Nat) (t0c : Nat) (t1 : Nat) (t7 : Int) (t8 : Int) (w : World), api_Write_f26.l1 t0p t0n t0c t1 t7 t8 w R → api_Write_f26.l1 t0p t0n t0c t1 t7 t8 w R) ∧ (∀ (C1 : Option Addr → Nat → Nat → Nat → Int → Int → World → Prop), True) ∧ True
theorem api_Write_f26.pays (R : Ending → World → Prop) : api_Write_f26.owed R := ⟨(fun _ _ _ _ _ _ _ h => h), (fun _ => trivial), trivial⟩
set_option maxRecDepth 100000 in
theorem api_Write_f26.ok {a0p : Option Addr} {a0n : Nat} {a0c : Nat} {a1q0 : Nat} {w : World} {R : Ending → World → Prop} (h : api_Write_f26.main a0p a0n a0c a1q0 w R) : api_Write_f26.C a0p a0n a0c a1q0 w R :=
  ev_ok cxok (c := cx) Try.func32 (code := api_Write_f26.code) (by kernel_rfl) [.tmp 4] (by kernel_rfl) 19 (by kernel_rfl) (api_Write_f26.sk R) (args := [(Value.slice a0p a0n a0c), (Value.func (.func 26) #[] #[(Value.pointer (some (⟨a1q0, 0, none⟩ : Addr)))])]) (Nat.le_of_ble_eq_true rfl) (by kernel_rfl) (o := api_Write_f26.owed R) (by kernel_rfl) (api_Write_f26.pays R) h

end Go.Proofs.Yticdeknmeafjcaa.G

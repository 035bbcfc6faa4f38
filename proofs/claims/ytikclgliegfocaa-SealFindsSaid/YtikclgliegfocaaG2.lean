/- Statements of functions, and that their calls do what they say. Printed by wip/tool/dec.py. Conditions: none. -/
import Derived.Test.YtikclgliegfocaaG0
namespace Go.Proofs.Ytikclgliegfocaa.G
open Go.Dec
set_option linter.unusedVariables false

/-! ### stopcock/stopcockref03.Close: function 15 -/
def stopcockref03_Close.k1 (t4p : Option Addr) (t4n : Nat) (t4c : Nat) (w : World) (R : Ending → World → Prop) : Prop :=
  callP Try.prog 11 #[(Value.slice t4p t4n t4c)] w (fun v1 w5 =>
    dI .u32 v1 fun x1 =>
    newP w5 #[(Value.int .u8 (IntKind.u8.wrap (Int.fdiv x1 (2 ^ (min 24 IntKind.u32.bits))))), (Value.int .u8 (IntKind.u8.wrap (Int.fdiv x1 (2 ^ (min 16 IntKind.u32.bits))))), (Value.int .u8 (IntKind.u8.wrap (Int.fdiv x1 (2 ^ (min 8 IntKind.u32.bits))))), (Value.int .u8 (IntKind.u8.wrap x1))] 5 fun b3 w7 =>
    appP w7 t4p t4n t4c 4 (CellsO w7 (some ⟨b3, 0, none⟩)) 5 1 1 #[(Value.int .u8 0)] fun p3 c3 w8 =>
    R (.returned (Value.tuple #[(Value.slice p3 (t4n + 4) c3), (Value.int .i64 0)])) w8) (fun ch w6 => R (.panicked ch) w6)
def stopcockref03_Close.b1 (t4p : Option Addr) (t4n : Nat) (t4c : Nat) (w : World) (R : Ending → World → Prop) (C1 : Option Addr → Nat → Nat → World → Prop) : Prop :=
  cond (decide (((t4n : Nat) : Int) < 60)) (
    newP w #[(Value.int .u8 0)] 5 fun b2 w3 =>
    appP w3 t4p t4n t4c 1 (CellsO w3 (some ⟨b2, 0, none⟩)) 5 1 1 #[(Value.int .u8 0)] fun p2 c2 w4 =>
    C1 p2 (t4n + 1) c2 w4) (
    stopcockref03_Close.k1 t4p t4n t4c w R)
def stopcockref03_Close.l1 (t4p : Option Addr) (t4n : Nat) (t4c : Nat) (w : World) (R : Ending → World → Prop) : Prop :=
  ∃ (I : Option Addr → Nat → Nat → World → Prop) (m : Option Addr → Nat → Nat → World → Nat), I t4p t4n t4c w ∧
  ∀ (t4p : Option Addr) (t4n : Nat) (t4c : Nat) (w : World), I t4p t4n t4c w →
  stopcockref03_Close.b1 t4p t4n t4c w R (fun t4p' t4n' t4c' w' => I t4p' t4n' t4c' w' ∧ m t4p' t4n' t4c' w' < m t4p t4n t4c w)
def stopcockref03_Close.main (a0p : Option Addr) (a0n : Nat) (a0c : Nat) (w : World) (R : Ending → World → Prop) : Prop :=
  cond (decide (((a0n : Nat) : Int) > 60)) (
    R (.returned (Value.tuple #[(Value.slice none 0 0), (Value.int .i64 6)])) w) (
    newP w #[] 5 fun b1 w1 =>
    appP w1 (some ⟨b1, 0, none⟩) 0 0 a0n (CellsO w1 a0p) 5 1 1 #[(Value.int .u8 0)] fun p1 c1 w2 =>
    stopcockref03_Close.l1 p1 (0 + a0n) c1 w2 R)
abbrev stopcockref03_Close.C (a0p : Option Addr) (a0n : Nat) (a0c : Nat) (w : World) (R : Ending → World → Prop) : Prop := Calls Try.prog 15 #[(Value.slice a0p a0n a0c)] w R
noncomputable def stopcockref03_Close.code : Code := (Try.f15.body).getD .skip
noncomputable def stopcockref03_Close.sk (R : Ending → World → Prop) : Sk := (.seq .leaf (.seq .leaf (.seq .leaf (.cut [(4, .slice)] (fun (t4p : Option Addr) (t4n : Nat) (t4c : Nat) (w : World) => stopcockref03_Close.k1 t4p t4n t4c w R) (.block (.loop [(4, .slice)] (fun (t4p : Option Addr) (t4n : Nat) (t4c : Nat) (w : World) => stopcockref03_Close.l1 t4p t4n t4c w R) (fun (C1 : Option Addr → Nat → Nat → World → Prop) => .leaf))) .leaf))))
def stopcockref03_Close.owed (R : Ending → World → Prop) : Prop :=
  (∀ (t4p : Option Addr) (t4n : Nat) (t4c : Nat) (w : World), stopcockref03_Close.l1 t4p t4n t4c w R → stopcockref03_Close.l1 t4p t4n t4c w R) ∧ (∀ (C1 : Option Addr → Nat → Nat → World → Prop), True) ∧ (∀ (t4p : Option Addr) (t4n : Nat) (t4c : Nat) (w : World), stopcockref03_Close.k1 t4p t4n t4c w R → stopcockref03_Close.k1 t4p t4n t4c w R) ∧ True
theorem stopcockref03_Close.pays (R : Ending → World → Prop) : stopcockref03_Close.owed R := ⟨(fun _ _ _ _ h => h), (fun _ => trivial), (fun _ _ _ _ h => h), trivial⟩
set_option maxRecDepth 100000 in
theorem stopcockref03_Close.ok {a0p : Option Addr} {a0n : Nat} {a0c : Nat} {w : World} {R : Ending → World → Prop} (h : stopcockref03_Close.main a0p a0n a0c w R) : stopcockref03_Close.C a0p a0n a0c w R :=
  ev_ok cxok (c := cx) Try.func15 (code := stopcockref03_Close.code) (by kernel_rfl) [.tmp 2, .tmp 3] (by kernel_rfl) 34 (by kernel_rfl) (stopcockref03_Close.sk R) (args := [(Value.slice a0p a0n a0c)]) (Nat.le_of_ble_eq_true rfl) (by kernel_rfl) (o := stopcockref03_Close.owed R) (by kernel_rfl) (stopcockref03_Close.pays R) h

/-! ### stopcock/stopcockref03.Open: function 17 -/
def stopcockref03_Open.main (a0p : Option Addr) (a0n : Nat) (a0c : Nat) (w : World) (R : Ending → World → Prop) : Prop :=
  cond (((a0n : Nat) : Int) != 64) (
    R (.returned (Value.tuple #[(Value.slice none 0 0), (Value.int .i64 6)])) w) (
    chk (decide (60 ≤ ((a0c : Nat) : Int))) (
      callP Try.prog 15 #[(Value.slice (slA a0p a0c 0 1) 60 a0c)] w (fun v1 w1 =>
        dT v1 fun vs1 =>
        optP (vs1[0]?) fun v2 =>
        dS v2 fun p1 n1 c1 =>
        optP (vs1[1]?) fun v3 =>
        dI .i64 v3 fun x1 =>
        ∃ (ns1 : List Int), ns1.length = n1 ∧ CellsO w1 p1 (ns1.map (Value.int .u8)) ∧
        (∃ (ns2 : List Int), ns2.length = a0n ∧ CellsO w1 a0p (ns2.map (Value.int .u8)) ∧
          (cond (!((strOf ns1).toList == (strOf ns2).toList)) (
              R (.returned (Value.tuple #[(Value.slice none 0 0), (Value.int .i64 2)])) w1) (
              newP w1 #[] 5 fun b1 w3 =>
              chk (decide (60 ≤ ((a0c : Nat) : Int))) (
                appP w3 (some ⟨b1, 0, none⟩) 0 0 60 (CellsO w3 (slA a0p a0c 0 1)) 5 1 1 #[(Value.int .u8 0)] fun p2 c2 w4 =>
                R (.returned (Value.tuple #[(Value.slice p2 (0 + 60) c2), (Value.int .i64 0)])) w4))))) (fun ch w2 => R (.panicked ch) w2)))
abbrev stopcockref03_Open.C (a0p : Option Addr) (a0n : Nat) (a0c : Nat) (w : World) (R : Ending → World → Prop) : Prop := Calls Try.prog 17 #[(Value.slice a0p a0n a0c)] w R
noncomputable def stopcockref03_Open.code : Code := (Try.f17.body).getD .skip
noncomputable def stopcockref03_Open.sk (R : Ending → World → Prop) : Sk := .leaf
def stopcockref03_Open.owed (R : Ending → World → Prop) : Prop :=
  True
theorem stopcockref03_Open.pays (R : Ending → World → Prop) : stopcockref03_Open.owed R := trivial
set_option maxRecDepth 100000 in
theorem stopcockref03_Open.ok {a0p : Option Addr} {a0n : Nat} {a0c : Nat} {w : World} {R : Ending → World → Prop} (h : stopcockref03_Open.main a0p a0n a0c w R) : stopcockref03_Open.C a0p a0n a0c w R :=
  ev_ok cxok (c := cx) Try.func17 (code := stopcockref03_Open.code) (by kernel_rfl) [.tmp 2, .tmp 3] (by kernel_rfl) 24 (by kernel_rfl) (stopcockref03_Open.sk R) (args := [(Value.slice a0p a0n a0c)]) (Nat.le_of_ble_eq_true rfl) (by kernel_rfl) (o := stopcockref03_Open.owed R) (by kernel_rfl) (stopcockref03_Open.pays R) h

/-! ### stopcock/stopcocklaw03.SealBack: function 5 -/
def stopcocklaw03_SealBack.b1 (t7p : Option Addr) (t7n : Nat) (t7c : Nat) (t9 : Int) (w : World) (R : Ending → World → Prop) (C1 : Option Addr → Nat → Nat → Int → World → Prop) : Prop :=
  cond (decide (t9 < 60)) (
    chk (decide (0 ≤ t9)) (
      chk (decide (t9 < ((t7n : Nat) : Int))) (
        optP t7p fun a1 =>
        ∃ (x6 : Int), w.cell? (a1.add (t9.toNat * 1)) = some (Value.int .u8 x6) ∧
        (cond (x6 != 0) (
            R (.returned (Value.bool false)) w) (
            C1 t7p t7n t7c (IntKind.i64.wrap (t9 + 1)) w))))) (
    R (.returned (Value.bool true)) w)
def stopcocklaw03_SealBack.l1 (t7p : Option Addr) (t7n : Nat) (t7c : Nat) (t9 : Int) (w : World) (R : Ending → World → Prop) : Prop :=
  ∃ (I : Option Addr → Nat → Nat → Int → World → Prop) (m : Option Addr → Nat → Nat → Int → World → Nat), I t7p t7n t7c t9 w ∧
  ∀ (t7p : Option Addr) (t7n : Nat) (t7c : Nat) (t9 : Int) (w : World), I t7p t7n t7c t9 w →
  stopcocklaw03_SealBack.b1 t7p t7n t7c t9 w R (fun t7p' t7n' t7c' t9' w' => I t7p' t7n' t7c' t9' w' ∧ m t7p' t7n' t7c' t9' w' < m t7p t7n t7c t9 w)
def stopcocklaw03_SealBack.main (a0p : Option Addr) (a0n : Nat) (a0c : Nat) (a1p : Option Addr) (a1n : Nat) (a1c : Nat) (w : World) (R : Ending → World → Prop) : Prop :=
  callP Try.prog 10 #[(Value.slice a0p a0n a0c)] w (fun v1 w1 =>
    dI .u32 v1 fun x1 =>
    callP Try.prog 12 #[(Value.int .u32 x1), (Value.slice a1p a1n a1c)] w1 (fun v2 w3 =>
      dI .u32 v2 fun x2 =>
      newP w3 #[] 5 fun b1 w5 =>
      appP w5 (some ⟨b1, 0, none⟩) 0 0 a0n (CellsO w5 a0p) 5 1 1 #[(Value.int .u8 0)] fun p1 c1 w6 =>
      appP w6 p1 (0 + a0n) c1 a1n (CellsO w6 a1p) 5 1 1 #[(Value.int .u8 0)] fun p2 c2 w7 =>
      callP Try.prog 10 #[(Value.slice p2 ((0 + a0n) + a1n) c2)] w7 (fun v3 w8 =>
        dI .u32 v3 fun x3 =>
        cond (x2 != x3) (
          R (.returned (Value.bool false)) w8) (
          callP Try.prog 14 #[(Value.slice a0p a0n a0c)] w8 (fun v4 w10 =>
            dT v4 fun vs1 =>
            optP (vs1[0]?) fun v5 =>
            dS v5 fun p3 n1 c3 =>
            optP (vs1[1]?) fun v6 =>
            dI .i64 v6 fun x4 =>
            cond (x4 != 0) (
              callP Try.prog 9 #[] w10 (fun v7 w12 =>
                dB v7 fun b2 =>
                cond b2 (
                  cond (x4 == 6) (
                    R (.returned (Value.bool (decide (((a0n : Nat) : Int) > 60)))) w12) (
                    R (.returned (Value.bool false)) w12)) (
                  R (.returned (Value.bool false)) w12)) (fun ch w13 => R (.panicked ch) w13)) (
              callP Try.prog 16 #[(Value.slice p3 n1 c3)] w10 (fun v8 w14 =>
                dT v8 fun vs2 =>
                optP (vs2[0]?) fun v9 =>
                dS v9 fun p4 n2 c4 =>
                optP (vs2[1]?) fun v10 =>
                dI .i64 v10 fun x5 =>
                callP Try.prog 9 #[] w14.drew (fun v11 w16 =>
                  dB v11 fun b3 =>
                  cond (!b3) (
                    R (.returned (Value.bool false)) w16) (
                    cond (x5 != 0) (
                      R (.returned (Value.bool false)) w16) (
                      cond (((n2 : Nat) : Int) != 60) (
                        R (.returned (Value.bool false)) w16) (
                        chk (decide (0 ≤ ((a0n : Nat) : Int))) (
                          chk (decide (((a0n : Nat) : Int) ≤ ((c4 : Nat) : Int))) (
                          ∃ (ns1 : List Int), ns1.length = a0n ∧ CellsO w16 (slA p4 c4 0 1) (ns1.map (Value.int .u8)) ∧
                          (∃ (ns2 : List Int), ns2.length = a0n ∧ CellsO w16 a0p (ns2.map (Value.int .u8)) ∧
                          (cond (!((strOf ns1).toList == (strOf ns2).toList)) (
                          R (.returned (Value.bool false)) w16) (
                          stopcocklaw03_SealBack.l1 p4 n2 c4 ((a0n : Nat) : Int) w16 R))))))))) (fun ch w17 => R (.panicked ch) w17)) (fun ch w15 => R (.panicked ch) w15))) (fun ch w11 => R (.panicked ch) w11))) (fun ch w9 => R (.panicked ch) w9)) (fun ch w4 => R (.panicked ch) w4)) (fun ch w2 => R (.panicked ch) w2)
abbrev stopcocklaw03_SealBack.C (a0p : Option Addr) (a0n : Nat) (a0c : Nat) (a1p : Option Addr) (a1n : Nat) (a1c : Nat) (w : World) (R : Ending → World → Prop) : Prop := Calls Try.prog 5 #[(Value.slice a0p a0n a0c), (Value.slice a1p a1n a1c)] w R
noncomputable def stopcocklaw03_SealBack.code : Code := (Try.f5.body).getD .skip
noncomputable def stopcocklaw03_SealBack.sk (R : Ending → World → Prop) : Sk := (.seq .leaf (.seq .leaf (.seq .leaf (.seq .leaf (.seq .leaf (.seq .leaf (.seq (.seq .leaf (.block (.loop [(7, .slice), (9, .int .i64)] (fun (t7p : Option Addr) (t7n : Nat) (t7c : Nat) (t9 : Int) (w : World) => stopcocklaw03_SealBack.l1 t7p t7n t7c t9 w R) (fun (C1 : Option Addr → Nat → Nat → Int → World → Prop) => .leaf)))) .leaf)))))))
def stopcocklaw03_SealBack.owed (R : Ending → World → Prop) : Prop :=
  (∀ (t7p : Option Addr) (t7n : Nat) (t7c : Nat) (t9 : Int) (w : World), stopcocklaw03_SealBack.l1 t7p t7n t7c t9 w R → stopcocklaw03_SealBack.l1 t7p t7n t7c t9 w R) ∧ (∀ (C1 : Option Addr → Nat → Nat → Int → World → Prop), True) ∧ True
theorem stopcocklaw03_SealBack.pays (R : Ending → World → Prop) : stopcocklaw03_SealBack.owed R := ⟨(fun _ _ _ _ _ h => h), (fun _ => trivial), trivial⟩
set_option maxRecDepth 100000 in
theorem stopcocklaw03_SealBack.ok {a0p : Option Addr} {a0n : Nat} {a0c : Nat} {a1p : Option Addr} {a1n : Nat} {a1c : Nat} {w : World} {R : Ending → World → Prop} (h : stopcocklaw03_SealBack.main a0p a0n a0c a1p a1n a1c w R) : stopcocklaw03_SealBack.C a0p a0n a0c a1p a1n a1c w R :=
  ev_ok cxok (c := cx) Try.func5 (code := stopcocklaw03_SealBack.code) (by kernel_rfl) [.tmp 4] (by kernel_rfl) 75 (by kernel_rfl) (stopcocklaw03_SealBack.sk R) (args := [(Value.slice a0p a0n a0c), (Value.slice a1p a1n a1c)]) (Nat.le_of_ble_eq_true rfl) (by kernel_rfl) (o := stopcocklaw03_SealBack.owed R) (by kernel_rfl) (stopcocklaw03_SealBack.pays R) h

/-! ### stopcock/stopcocklaw03.SealFinds: function 6 -/
def stopcocklaw03_SealFinds.k1 (t7p : Option Addr) (t7n : Nat) (t7c : Nat) (w : World) (R : Ending → World → Prop) : Prop :=
  callP Try.prog 16 #[(Value.slice t7p t7n t7c)] w (fun v8 w12 =>
    dT v8 fun vs2 =>
    optP (vs2[0]?) fun v9 =>
    dS v9 fun p2 n2 c2 =>
    optP (vs2[1]?) fun v10 =>
    dI .i64 v10 fun x3 =>
    R (.returned (Value.bool (x3 == 2))) w12) (fun ch w13 => R (.panicked ch) w13)
def stopcocklaw03_SealFinds.b1 (t2 : Int) (t7p : Option Addr) (t7n : Nat) (t7c : Nat) (t9 : Int) (t10 : Int) (w : World) (R : Ending → World → Prop) (C1 : Int → Option Addr → Nat → Nat → Int → Int → World → Prop) : Prop :=
  cond (decide (t10 < 4)) (
    chk (decide (0 ≤ (IntKind.i64.wrap (t9 + t10)))) (
      chk (decide ((IntKind.i64.wrap (t9 + t10)) < ((t7n : Nat) : Int))) (
        optP t7p fun a1 =>
        ∃ (x2 : Int), w.drew.cell? (a1.add ((IntKind.i64.wrap (t9 + t10)).toNat * 1)) = some (Value.int .u8 x2) ∧
        (chk (decide (0 ≤ (IntKind.i64.wrap (24 - (IntKind.i64.wrap (8 * t10)))))) (
            chk (decide (0 ≤ (IntKind.i64.wrap (t9 + t10)))) (
              chk (decide ((IntKind.i64.wrap (t9 + t10)) < ((t7n : Nat) : Int))) (
                optP t7p fun a2 =>
                (w.drew.cell? (a2.add ((IntKind.i64.wrap (t9 + t10)).toNat * 1))).isSome = true ∧ w.drew.frozen? (a2.add ((IntKind.i64.wrap (t9 + t10)).toNat * 1)) = false ∧ ∀ w11, w11 = w.drew.setCell (a2.add ((IntKind.i64.wrap (t9 + t10)).toNat * 1)) (Value.int .u8 (IntKind.u8.wrap (BitVec.ofInt IntKind.u8.bits x2 ^^^ BitVec.ofInt IntKind.u8.bits (IntKind.u8.wrap (Int.fdiv t2 (2 ^ (min (IntKind.i64.wrap (24 - (IntKind.i64.wrap (8 * t10)))).toNat IntKind.u32.bits))))).toNat)) →
                (C1 t2 t7p t7n t7c t9 (IntKind.i64.wrap (t10 + 1)) w11)))))))) (
    stopcocklaw03_SealFinds.k1 t7p t7n t7c w R)
def stopcocklaw03_SealFinds.l1 (t2 : Int) (t7p : Option Addr) (t7n : Nat) (t7c : Nat) (t9 : Int) (t10 : Int) (w : World) (R : Ending → World → Prop) : Prop :=
  ∃ (I : Int → Option Addr → Nat → Nat → Int → Int → World → Prop) (m : Int → Option Addr → Nat → Nat → Int → Int → World → Nat), I t2 t7p t7n t7c t9 t10 w ∧
  ∀ (t2 : Int) (t7p : Option Addr) (t7n : Nat) (t7c : Nat) (t9 : Int) (t10 : Int) (w : World), I t2 t7p t7n t7c t9 t10 w →
  stopcocklaw03_SealFinds.b1 t2 t7p t7n t7c t9 t10 w R (fun t2' t7p' t7n' t7c' t9' t10' w' => I t2' t7p' t7n' t7c' t9' t10' w' ∧ m t2' t7p' t7n' t7c' t9' t10' w' < m t2 t7p t7n t7c t9 t10 w)
def stopcocklaw03_SealFinds.main (a0p : Option Addr) (a0n : Nat) (a0c : Nat) (a1 : Int) (a2 : Int) (w : World) (R : Ending → World → Prop) : Prop :=
  callP Try.prog 14 #[(Value.slice a0p a0n a0c)] w (fun v1 w1 =>
    dT v1 fun vs1 =>
    optP (vs1[0]?) fun v2 =>
    dS v2 fun p1 n1 c1 =>
    optP (vs1[1]?) fun v3 =>
    dI .i64 v3 fun x1 =>
    callP Try.prog 9 #[] w1 (fun v4 w3 =>
      dB v4 fun b1 =>
      cond (!b1) (
        callP Try.prog 9 #[] w3 (fun v5 w5 =>
          dB v5 fun b2 =>
          R (.returned (Value.bool b2)) w5) (fun ch w6 => R (.panicked ch) w6)) (
        cond (x1 != 0) (
          callP Try.prog 9 #[] w3 (fun v6 w7 =>
            dB v6 fun b3 =>
            R (.returned (Value.bool b3)) w7) (fun ch w8 => R (.panicked ch) w8)) (
          cond (a2 == 0) (
            callP Try.prog 9 #[] w3 (fun v7 w9 =>
              dB v7 fun b4 =>
              R (.returned (Value.bool b4)) w9) (fun ch w10 => R (.panicked ch) w10)) (
            stopcocklaw03_SealFinds.l1 a2 p1 n1 c1 (IntKind.i64.wrap (Int.tmod a1 61)) 0 w3 R)))) (fun ch w4 => R (.panicked ch) w4)) (fun ch w2 => R (.panicked ch) w2)
abbrev stopcocklaw03_SealFinds.C (a0p : Option Addr) (a0n : Nat) (a0c : Nat) (a1 : Int) (a2 : Int) (w : World) (R : Ending → World → Prop) : Prop := Calls Try.prog 6 #[(Value.slice a0p a0n a0c), (Value.int .u8 a1), (Value.int .u32 a2)] w R
noncomputable def stopcocklaw03_SealFinds.code : Code := (Try.f6.body).getD .skip
noncomputable def stopcocklaw03_SealFinds.sk (R : Ending → World → Prop) : Sk := (.seq .leaf (.seq .leaf (.seq .leaf (.seq .leaf (.cut [(7, .slice)] (fun (t7p : Option Addr) (t7n : Nat) (t7c : Nat) (w : World) => stopcocklaw03_SealFinds.k1 t7p t7n t7c w R) (.seq .leaf (.block (.loop [(2, .int .u32), (7, .slice), (9, .int .i64), (10, .int .i64)] (fun (t2 : Int) (t7p : Option Addr) (t7n : Nat) (t7c : Nat) (t9 : Int) (t10 : Int) (w : World) => stopcocklaw03_SealFinds.l1 t2 t7p t7n t7c t9 t10 w R) (fun (C1 : Int → Option Addr → Nat → Nat → Int → Int → World → Prop) => .leaf)))) .leaf)))))
def stopcocklaw03_SealFinds.owed (R : Ending → World → Prop) : Prop :=
  (∀ (t2 : Int) (t7p : Option Addr) (t7n : Nat) (t7c : Nat) (t9 : Int) (t10 : Int) (w : World), stopcocklaw03_SealFinds.l1 t2 t7p t7n t7c t9 t10 w R → stopcocklaw03_SealFinds.l1 t2 t7p t7n t7c t9 t10 w R) ∧ (∀ (C1 : Int → Option Addr → Nat → Nat → Int → Int → World → Prop), True) ∧ (∀ (t7p : Option Addr) (t7n : Nat) (t7c : Nat) (w : World), stopcocklaw03_SealFinds.k1 t7p t7n t7c w R → stopcocklaw03_SealFinds.k1 t7p t7n t7c w R) ∧ True
theorem stopcocklaw03_SealFinds.pays (R : Ending → World → Prop) : stopcocklaw03_SealFinds.owed R := ⟨(fun _ _ _ _ _ _ _ h => h), (fun _ => trivial), (fun _ _ _ _ h => h), trivial⟩
set_option maxRecDepth 100000 in
theorem stopcocklaw03_SealFinds.ok {a0p : Option Addr} {a0n : Nat} {a0c : Nat} {a1 : Int} {a2 : Int} {w : World} {R : Ending → World → Prop} (h : stopcocklaw03_SealFinds.main a0p a0n a0c a1 a2 w R) : stopcocklaw03_SealFinds.C a0p a0n a0c a1 a2 w R :=
  ev_ok cxok (c := cx) Try.func6 (code := stopcocklaw03_SealFinds.code) (by kernel_rfl) [.tmp 6] (by kernel_rfl) 57 (by kernel_rfl) (stopcocklaw03_SealFinds.sk R) (args := [(Value.slice a0p a0n a0c), (Value.int .u8 a1), (Value.int .u32 a2)]) (Nat.le_of_ble_eq_true rfl) (by kernel_rfl) (o := stopcocklaw03_SealFinds.owed R) (by kernel_rfl) (stopcocklaw03_SealFinds.pays R) h

/-! ### stopcock/stopcocklaw03.SealThree: function 7 -/
def stopcocklaw03_SealThree.k3 (t0p : Option Addr) (t0n : Nat) (t0c : Nat) (t1p : Option Addr) (t1n : Nat) (t1c : Nat) (t2p : Option Addr) (t2n : Nat) (t2c : Nat) (t7 : Int) (t8p : Option Addr) (t8n : Nat) (t8c : Nat) (w : World) (R : Ending → World → Prop) : Prop :=
  callP Try.prog 9 #[] w.drew (fun v1 w3 =>
    dB v1 fun b2 =>
    cond b2 (
      chk (decide (0 ≤ t7)) (
        chk (decide (t7 ≤ ((t0c : Nat) : Int))) (
          chk (decide (0 ≤ t7)) (
            chk (decide (t7 ≤ ((t1c : Nat) : Int))) (
              chk (decide (0 ≤ t7)) (
                chk (decide (t7 ≤ ((t2c : Nat) : Int))) (
                  callP Try.prog 10 #[(Value.slice t8p t8n t8c)] w3 (fun v2 w5 =>
                    dI .u32 v2 fun x4 =>
                    callP Try.prog 10 #[(Value.slice (slA t0p t0c 0 1) t7.toNat t0c)] w5 (fun v3 w7 =>
                      dI .u32 v3 fun x5 =>
                      callP Try.prog 10 #[(Value.slice (slA t1p t1c 0 1) t7.toNat t1c)] w7 (fun v4 w9 =>
                        dI .u32 v4 fun x6 =>
                        callP Try.prog 10 #[(Value.slice (slA t2p t2c 0 1) t7.toNat t2c)] w9 (fun v5 w11 =>
                          dI .u32 v5 fun x7 =>
                          R (.returned (Value.bool (x4 == (IntKind.u32.wrap (BitVec.ofInt IntKind.u32.bits (IntKind.u32.wrap (BitVec.ofInt IntKind.u32.bits x5 ^^^ BitVec.ofInt IntKind.u32.bits x6).toNat) ^^^ BitVec.ofInt IntKind.u32.bits x7).toNat)))) w11) (fun ch w12 => R (.panicked ch) w12)) (fun ch w10 => R (.panicked ch) w10)) (fun ch w8 => R (.panicked ch) w8)) (fun ch w6 => R (.panicked ch) w6)))))))) (
      R (.returned (Value.bool false)) w3)) (fun ch w4 => R (.panicked ch) w4)
def stopcocklaw03_SealThree.b1 (t0p : Option Addr) (t0n : Nat) (t0c : Nat) (t1p : Option Addr) (t1n : Nat) (t1c : Nat) (t2p : Option Addr) (t2n : Nat) (t2c : Nat) (t7 : Int) (t8p : Option Addr) (t8n : Nat) (t8c : Nat) (t9 : Int) (w : World) (R : Ending → World → Prop) (C1 : Option Addr → Nat → Nat → Option Addr → Nat → Nat → Option Addr → Nat → Nat → Int → Option Addr → Nat → Nat → Int → World → Prop) : Prop :=
  cond (decide (t9 < t7)) (
    chk (decide (0 ≤ t9)) (
      chk (decide (t9 < ((t0n : Nat) : Int))) (
        optP t0p fun a1 =>
        ∃ (x1 : Int), w.drew.cell? (a1.add (t9.toNat * 1)) = some (Value.int .u8 x1) ∧
        (chk (decide (0 ≤ t9)) (
            chk (decide (t9 < ((t1n : Nat) : Int))) (
              optP t1p fun a2 =>
              ∃ (x2 : Int), w.drew.cell? (a2.add (t9.toNat * 1)) = some (Value.int .u8 x2) ∧
              (chk (decide (0 ≤ t9)) (
                  chk (decide (t9 < ((t2n : Nat) : Int))) (
                    optP t2p fun a3 =>
                    ∃ (x3 : Int), w.drew.cell? (a3.add (t9.toNat * 1)) = some (Value.int .u8 x3) ∧
                    (chk (decide (0 ≤ t9)) (
                        chk (decide (t9 < ((t8n : Nat) : Int))) (
                          optP t8p fun a4 =>
                          (w.drew.cell? (a4.add (t9.toNat * 1))).isSome = true ∧ w.drew.frozen? (a4.add (t9.toNat * 1)) = false ∧ ∀ w2, w2 = w.drew.setCell (a4.add (t9.toNat * 1)) (Value.int .u8 (IntKind.u8.wrap (BitVec.ofInt IntKind.u8.bits (IntKind.u8.wrap (BitVec.ofInt IntKind.u8.bits x1 ^^^ BitVec.ofInt IntKind.u8.bits x2).toNat) ^^^ BitVec.ofInt IntKind.u8.bits x3).toNat)) →
                          (C1 t0p t0n t0c t1p t1n t1c t2p t2n t2c t7 t8p t8n t8c (IntKind.i64.wrap (t9 + 1)) w2))))))))))))) (
    stopcocklaw03_SealThree.k3 t0p t0n t0c t1p t1n t1c t2p t2n t2c t7 t8p t8n t8c w R)
def stopcocklaw03_SealThree.l1 (t0p : Option Addr) (t0n : Nat) (t0c : Nat) (t1p : Option Addr) (t1n : Nat) (t1c : Nat) (t2p : Option Addr) (t2n : Nat) (t2c : Nat) (t7 : Int) (t8p : Option Addr) (t8n : Nat) (t8c : Nat) (t9 : Int) (w : World) (R : Ending → World → Prop) : Prop :=
  ∃ (I : Option Addr → Nat → Nat → Option Addr → Nat → Nat → Option Addr → Nat → Nat → Int → Option Addr → Nat → Nat → Int → World → Prop) (m : Option Addr → Nat → Nat → Option Addr → Nat → Nat → Option Addr → Nat → Nat → Int → Option Addr → Nat → Nat → Int → World → Nat), I t0p t0n t0c t1p t1n t1c t2p t2n t2c t7 t8p t8n t8c t9 w ∧
  ∀ (t0p : Option Addr) (t0n : Nat) (t0c : Nat) (t1p : Option Addr) (t1n : Nat) (t1c : Nat) (t2p : Option Addr) (t2n : Nat) (t2c : Nat) (t7 : Int) (t8p : Option Addr) (t8n : Nat) (t8c : Nat) (t9 : Int) (w : World), I t0p t0n t0c t1p t1n t1c t2p t2n t2c t7 t8p t8n t8c t9 w →
  stopcocklaw03_SealThree.b1 t0p t0n t0c t1p t1n t1c t2p t2n t2c t7 t8p t8n t8c t9 w R (fun t0p' t0n' t0c' t1p' t1n' t1c' t2p' t2n' t2c' t7' t8p' t8n' t8c' t9' w' => I t0p' t0n' t0c' t1p' t1n' t1c' t2p' t2n' t2c' t7' t8p' t8n' t8c' t9' w' ∧ m t0p' t0n' t0c' t1p' t1n' t1c' t2p' t2n' t2c' t7' t8p' t8n' t8c' t9' w' < m t0p t0n t0c t1p t1n t1c t2p t2n t2c t7 t8p t8n t8c t9 w)
def stopcocklaw03_SealThree.k2 (t0p : Option Addr) (t0n : Nat) (t0c : Nat) (t1p : Option Addr) (t1n : Nat) (t1c : Nat) (t2p : Option Addr) (t2n : Nat) (t2c : Nat) (t7 : Int) (w : World) (R : Ending → World → Prop) : Prop :=
  chk (decide (0 ≤ t7)) (
    chk (decide (t7 ≤ t7)) (
      chk (decide ((1 : Int) * t7 ≤ 281474976710656 ∧ t7 ≤ 9223372036854775807)) (
        newP w (madeCells #[(Value.int .u8 0)] (t7.toNat * 1)) 5 fun b1 w1 =>
        stopcocklaw03_SealThree.l1 t0p t0n t0c t1p t1n t1c t2p t2n t2c t7 (some ⟨b1, 0, none⟩) t7.toNat t7.toNat 0 w1 R)))
def stopcocklaw03_SealThree.k1 (t0p : Option Addr) (t0n : Nat) (t0c : Nat) (t1p : Option Addr) (t1n : Nat) (t1c : Nat) (t2p : Option Addr) (t2n : Nat) (t2c : Nat) (t7 : Int) (w : World) (R : Ending → World → Prop) : Prop :=
  cond (decide (((t2n : Nat) : Int) < t7)) (
    stopcocklaw03_SealThree.k2 t0p t0n t0c t1p t1n t1c t2p t2n t2c ((t2n : Nat) : Int) w R) (
    stopcocklaw03_SealThree.k2 t0p t0n t0c t1p t1n t1c t2p t2n t2c t7 w R)
def stopcocklaw03_SealThree.main (a0p : Option Addr) (a0n : Nat) (a0c : Nat) (a1p : Option Addr) (a1n : Nat) (a1c : Nat) (a2p : Option Addr) (a2n : Nat) (a2c : Nat) (w : World) (R : Ending → World → Prop) : Prop :=
  cond (decide (((a1n : Nat) : Int) < ((a0n : Nat) : Int))) (
    stopcocklaw03_SealThree.k1 a0p a0n a0c a1p a1n a1c a2p a2n a2c ((a1n : Nat) : Int) w R) (
    stopcocklaw03_SealThree.k1 a0p a0n a0c a1p a1n a1c a2p a2n a2c ((a0n : Nat) : Int) w R)
abbrev stopcocklaw03_SealThree.C (a0p : Option Addr) (a0n : Nat) (a0c : Nat) (a1p : Option Addr) (a1n : Nat) (a1c : Nat) (a2p : Option Addr) (a2n : Nat) (a2c : Nat) (w : World) (R : Ending → World → Prop) : Prop := Calls Try.prog 7 #[(Value.slice a0p a0n a0c), (Value.slice a1p a1n a1c), (Value.slice a2p a2n a2c)] w R
noncomputable def stopcocklaw03_SealThree.code : Code := (Try.f7.body).getD .skip
noncomputable def stopcocklaw03_SealThree.sk (R : Ending → World → Prop) : Sk := (.seq .leaf (.seq .leaf (.cut [(0, .slice), (1, .slice), (2, .slice), (7, .int .i64)] (fun (t0p : Option Addr) (t0n : Nat) (t0c : Nat) (t1p : Option Addr) (t1n : Nat) (t1c : Nat) (t2p : Option Addr) (t2n : Nat) (t2c : Nat) (t7 : Int) (w : World) => stopcocklaw03_SealThree.k1 t0p t0n t0c t1p t1n t1c t2p t2n t2c t7 w R) .leaf (.cut [(0, .slice), (1, .slice), (2, .slice), (7, .int .i64)] (fun (t0p : Option Addr) (t0n : Nat) (t0c : Nat) (t1p : Option Addr) (t1n : Nat) (t1c : Nat) (t2p : Option Addr) (t2n : Nat) (t2c : Nat) (t7 : Int) (w : World) => stopcocklaw03_SealThree.k2 t0p t0n t0c t1p t1n t1c t2p t2n t2c t7 w R) .leaf (.seq .leaf (.cut [(0, .slice), (1, .slice), (2, .slice), (7, .int .i64), (8, .slice)] (fun (t0p : Option Addr) (t0n : Nat) (t0c : Nat) (t1p : Option Addr) (t1n : Nat) (t1c : Nat) (t2p : Option Addr) (t2n : Nat) (t2c : Nat) (t7 : Int) (t8p : Option Addr) (t8n : Nat) (t8c : Nat) (w : World) => stopcocklaw03_SealThree.k3 t0p t0n t0c t1p t1n t1c t2p t2n t2c t7 t8p t8n t8c w R) (.seq .leaf (.block (.loop [(0, .slice), (1, .slice), (2, .slice), (7, .int .i64), (8, .slice), (9, .int .i64)] (fun (t0p : Option Addr) (t0n : Nat) (t0c : Nat) (t1p : Option Addr) (t1n : Nat) (t1c : Nat) (t2p : Option Addr) (t2n : Nat) (t2c : Nat) (t7 : Int) (t8p : Option Addr) (t8n : Nat) (t8c : Nat) (t9 : Int) (w : World) => stopcocklaw03_SealThree.l1 t0p t0n t0c t1p t1n t1c t2p t2n t2c t7 t8p t8n t8c t9 w R) (fun (C1 : Option Addr → Nat → Nat → Option Addr → Nat → Nat → Option Addr → Nat → Nat → Int → Option Addr → Nat → Nat → Int → World → Prop) => .leaf)))) .leaf))))))
def stopcocklaw03_SealThree.owed (R : Ending → World → Prop) : Prop :=
  (∀ (t0p : Option Addr) (t0n : Nat) (t0c : Nat) (t1p : Option Addr) (t1n : Nat) (t1c : Nat) (t2p : Option Addr) (t2n : Nat) (t2c : Nat) (t7 : Int) (w : World), stopcocklaw03_SealThree.k1 t0p t0n t0c t1p t1n t1c t2p t2n t2c t7 w R → stopcocklaw03_SealThree.k1 t0p t0n t0c t1p t1n t1c t2p t2n t2c t7 w R) ∧ (∀ (t0p : Option Addr) (t0n : Nat) (t0c : Nat) (t1p : Option Addr) (t1n : Nat) (t1c : Nat) (t2p : Option Addr) (t2n : Nat) (t2c : Nat) (t7 : Int) (w : World), stopcocklaw03_SealThree.k2 t0p t0n t0c t1p t1n t1c t2p t2n t2c t7 w R → stopcocklaw03_SealThree.k2 t0p t0n t0c t1p t1n t1c t2p t2n t2c t7 w R) ∧ (∀ (t0p : Option Addr) (t0n : Nat) (t0c : Nat) (t1p : Option Addr) (t1n : Nat) (t1c : Nat) (t2p : Option Addr) (t2n : Nat) (t2c : Nat) (t7 : Int) (t8p : Option Addr) (t8n : Nat) (t8c : Nat) (t9 : Int) (w : World), stopcocklaw03_SealThree.l1 t0p t0n t0c t1p t1n t1c t2p t2n t2c t7 t8p t8n t8c t9 w R → stopcocklaw03_SealThree.l1 t0p t0n t0c t1p t1n t1c t2p t2n t2c t7 t8p t8n t8c t9 w R) ∧ (∀ (C1 : Option Addr → Nat → Nat → Option Addr → Nat → Nat → Option Addr → Nat → Nat → Int → Option Addr → Nat → Nat → Int → World → Prop), True) ∧ (∀ (t0p : Option Addr) (t0n : Nat) (t0c : Nat) (t1p : Option Addr) (t1n : Nat) (t1c : Nat) (t2p : Option Addr) (t2n : Nat) (t2c : Nat) (t7 : Int) (t8p : Option Addr) (t8n : Nat) (t8c : Nat) (w : World), stopcocklaw03_SealThree.k3 t0p t0n t0c t1p t1n t1c t2p t2n t2c t7 t8p t8n t8c w R → stopcocklaw03_SealThree.k3 t0p t0n t0c t1p t1n t1c t2p t2n t2c t7 t8p t8n t8c w R) ∧ True
theorem stopcocklaw03_SealThree.pays (R : Ending → World → Prop) : stopcocklaw03_SealThree.owed R := ⟨(fun _ _ _ _ _ _ _ _ _ _ _ h => h), (fun _ _ _ _ _ _ _ _ _ _ _ h => h), (fun _ _ _ _ _ _ _ _ _ _ _ _ _ _ _ h => h), (fun _ => trivial), (fun _ _ _ _ _ _ _ _ _ _ _ _ _ _ h => h), trivial⟩
set_option maxRecDepth 100000 in
theorem stopcocklaw03_SealThree.ok {a0p : Option Addr} {a0n : Nat} {a0c : Nat} {a1p : Option Addr} {a1n : Nat} {a1c : Nat} {a2p : Option Addr} {a2n : Nat} {a2c : Nat} {w : World} {R : Ending → World → Prop} (h : stopcocklaw03_SealThree.main a0p a0n a0c a1p a1n a1c a2p a2n a2c w R) : stopcocklaw03_SealThree.C a0p a0n a0c a1p a1n a1c a2p a2n a2c w R :=
  ev_ok cxok (c := cx) Try.func7 (code := stopcocklaw03_SealThree.code) (by kernel_rfl) [.tmp 6] (by kernel_rfl) 68 (by kernel_rfl) (stopcocklaw03_SealThree.sk R) (args := [(Value.slice a0p a0n a0c), (Value.slice a1p a1n a1c), (Value.slice a2p a2n a2c)]) (Nat.le_of_ble_eq_true rfl) (by kernel_rfl) (o := stopcocklaw03_SealThree.owed R) (by kernel_rfl) (stopcocklaw03_SealThree.pays R) h

/-! ### stopcock/stopcocklaw03.SealPads: function 8 -/
def stopcocklaw03_SealPads.k1 (t7p : Option Addr) (t7n : Nat) (t7c : Nat) (t11p : Option Addr) (t11n : Nat) (t11c : Nat) (w : World) (R : Ending → World → Prop) : Prop :=
  callP Try.prog 16 #[(Value.slice t11p t11n t11c)] w (fun v14 w18 =>
    dT v14 fun vs4 =>
    optP (vs4[0]?) fun v15 =>
    dS v15 fun p6 n4 c6 =>
    optP (vs4[1]?) fun v16 =>
    dI .i64 v16 fun x4 =>
    callP Try.prog 16 #[(Value.slice t7p t7n t7c)] w18 (fun v17 w20 =>
      dT v17 fun vs5 =>
      optP (vs5[0]?) fun v18 =>
      dS v18 fun p7 n5 c7 =>
      optP (vs5[1]?) fun v19 =>
      dI .i64 v19 fun x5 =>
      cond (x4 == 0) (
        cond (x5 == 0) (
          ∃ (ns3 : List Int), ns3.length = n4 ∧ CellsO w20 p6 (ns3.map (Value.int .u8)) ∧
          (∃ (ns4 : List Int), ns4.length = n5 ∧ CellsO w20 p7 (ns4.map (Value.int .u8)) ∧
            (∃ (ns5 : List Int), ns5.length = t7n ∧ CellsO w20 t7p (ns5.map (Value.int .u8)) ∧
              (∃ (ns6 : List Int), ns6.length = t11n ∧ CellsO w20 t11p (ns6.map (Value.int .u8)) ∧
                (R (.returned (Value.bool (((strOf ns3).toList == (strOf ns4).toList) == ((strOf ns5).toList == (strOf ns6).toList)))) w20))))) (
          R (.returned (Value.bool false)) w20)) (
        R (.returned (Value.bool false)) w20)) (fun ch w21 => R (.panicked ch) w21)) (fun ch w19 => R (.panicked ch) w19)
def stopcocklaw03_SealPads.main (a0p : Option Addr) (a0n : Nat) (a0c : Nat) (a1p : Option Addr) (a1n : Nat) (a1c : Nat) (a2 : Int) (w : World) (R : Ending → World → Prop) : Prop :=
  callP Try.prog 14 #[(Value.slice a0p a0n a0c)] w (fun v1 w1 =>
    dT v1 fun vs1 =>
    optP (vs1[0]?) fun v2 =>
    dS v2 fun p1 n1 c1 =>
    optP (vs1[1]?) fun v3 =>
    dI .i64 v3 fun x1 =>
    newP w1 #[] 5 fun b1 w3 =>
    appP w3 (some ⟨b1, 0, none⟩) 0 0 a0n (CellsO w3 a0p) 5 1 1 #[(Value.int .u8 0)] fun p2 c2 w4 =>
    chk (decide (0 ≤ (IntKind.i64.wrap (Int.tmod a2 61)))) (
      appzP w4 p2 (0 + a0n) c2 ((IntKind.i64.wrap (Int.tmod a2 61)).toNat) 5 1 1 #[(Value.int .u8 0)] fun p3 c3 w5 =>
      callP Try.prog 14 #[(Value.slice p3 ((0 + a0n) + (IntKind.i64.wrap (Int.tmod a2 61)).toNat) c3)] w5 (fun v4 w6 =>
        dT v4 fun vs2 =>
        optP (vs2[0]?) fun v5 =>
        dS v5 fun p4 n2 c4 =>
        optP (vs2[1]?) fun v6 =>
        dI .i64 v6 fun x2 =>
        callP Try.prog 14 #[(Value.slice a1p a1n a1c)] w6 (fun v7 w8 =>
          dT v7 fun vs3 =>
          optP (vs3[0]?) fun v8 =>
          dS v8 fun p5 n3 c5 =>
          optP (vs3[1]?) fun v9 =>
          dI .i64 v9 fun x3 =>
          callP Try.prog 9 #[] w8 (fun v10 w10 =>
            dB v10 fun b2 =>
            cond (!b2) (
              callP Try.prog 9 #[] w10 (fun v11 w12 =>
                dB v11 fun b3 =>
                R (.returned (Value.bool b3)) w12) (fun ch w13 => R (.panicked ch) w13)) (
              cond (x1 != 0) (
                callP Try.prog 9 #[] w10 (fun v12 w14 =>
                  dB v12 fun b4 =>
                  R (.returned (Value.bool b4)) w14) (fun ch w15 => R (.panicked ch) w15)) (
                cond (x3 != 0) (
                  callP Try.prog 9 #[] w10 (fun v13 w16 =>
                    dB v13 fun b5 =>
                    R (.returned (Value.bool b5)) w16) (fun ch w17 => R (.panicked ch) w17)) (
                  cond (x2 == 0) (
                    ∃ (ns1 : List Int), ns1.length = n1 ∧ CellsO w10 p1 (ns1.map (Value.int .u8)) ∧
                    (∃ (ns2 : List Int), ns2.length = n2 ∧ CellsO w10 p4 (ns2.map (Value.int .u8)) ∧
                      (cond (!((strOf ns1).toList == (strOf ns2).toList)) (
                          R (.returned (Value.bool false)) w10) (
                          cond (!((x2 != 0) == (decide ((IntKind.i64.wrap (((a0n : Nat) : Int) + (IntKind.i64.wrap (Int.tmod a2 61)))) > 60)))) (
                          R (.returned (Value.bool false)) w10) (
                          stopcocklaw03_SealPads.k1 p1 n1 c1 p5 n3 c5 w10 R))))) (
                    cond (!((x2 != 0) == (decide ((IntKind.i64.wrap (((a0n : Nat) : Int) + (IntKind.i64.wrap (Int.tmod a2 61)))) > 60)))) (
                      R (.returned (Value.bool false)) w10) (
                      stopcocklaw03_SealPads.k1 p1 n1 c1 p5 n3 c5 w10 R)))))) (fun ch w11 => R (.panicked ch) w11)) (fun ch w9 => R (.panicked ch) w9)) (fun ch w7 => R (.panicked ch) w7))) (fun ch w2 => R (.panicked ch) w2)
abbrev stopcocklaw03_SealPads.C (a0p : Option Addr) (a0n : Nat) (a0c : Nat) (a1p : Option Addr) (a1n : Nat) (a1c : Nat) (a2 : Int) (w : World) (R : Ending → World → Prop) : Prop := Calls Try.prog 8 #[(Value.slice a0p a0n a0c), (Value.slice a1p a1n a1c), (Value.int .u8 a2)] w R
noncomputable def stopcocklaw03_SealPads.code : Code := (Try.f8.body).getD .skip
noncomputable def stopcocklaw03_SealPads.sk (R : Ending → World → Prop) : Sk := (.seq .leaf (.seq .leaf (.seq .leaf (.seq .leaf (.seq .leaf (.cut [(7, .slice), (11, .slice)] (fun (t7p : Option Addr) (t7n : Nat) (t7c : Nat) (t11p : Option Addr) (t11n : Nat) (t11c : Nat) (w : World) => stopcocklaw03_SealPads.k1 t7p t7n t7c t11p t11n t11c w R) .leaf .leaf))))))
def stopcocklaw03_SealPads.owed (R : Ending → World → Prop) : Prop :=
  (∀ (t7p : Option Addr) (t7n : Nat) (t7c : Nat) (t11p : Option Addr) (t11n : Nat) (t11c : Nat) (w : World), stopcocklaw03_SealPads.k1 t7p t7n t7c t11p t11n t11c w R → stopcocklaw03_SealPads.k1 t7p t7n t7c t11p t11n t11c w R) ∧ True
theorem stopcocklaw03_SealPads.pays (R : Ending → World → Prop) : stopcocklaw03_SealPads.owed R := ⟨(fun _ _ _ _ _ _ _ h => h), trivial⟩
set_option maxRecDepth 100000 in
theorem stopcocklaw03_SealPads.ok {a0p : Option Addr} {a0n : Nat} {a0c : Nat} {a1p : Option Addr} {a1n : Nat} {a1c : Nat} {a2 : Int} {w : World} {R : Ending → World → Prop} (h : stopcocklaw03_SealPads.main a0p a0n a0c a1p a1n a1c a2 w R) : stopcocklaw03_SealPads.C a0p a0n a0c a1p a1n a1c a2 w R :=
  ev_ok cxok (c := cx) Try.func8 (code := stopcocklaw03_SealPads.code) (by kernel_rfl) [.tmp 6] (by kernel_rfl) 99 (by kernel_rfl) (stopcocklaw03_SealPads.sk R) (args := [(Value.slice a0p a0n a0c), (Value.slice a1p a1n a1c), (Value.int .u8 a2)]) (Nat.le_of_ble_eq_true rfl) (by kernel_rfl) (o := stopcocklaw03_SealPads.owed R) (by kernel_rfl) (stopcocklaw03_SealPads.pays R) h

end Go.Proofs.Ytikclgliegfocaa.G

/- Statements of functions, and that their calls do what they say. Printed by wip/tool/dec.py. Conditions: none. -/
import Derived.Test.YtlcnjadfkpkgjaaG0
namespace Go.Proofs.Ytlcnjadfkpkgjaa.G
open Go.Dec
set_option linter.unusedVariables false

/-! ### stopcock/stopcocklaw04.CellPuts: function 3 -/
def stopcocklaw04_CellPuts.main (a0p : Option Addr) (a0n : Nat) (a0c : Nat) (a1 : Int) (a2 : Int) (w : World) (R : Ending → World → Prop) : Prop :=
  callP Try.prog 10 #[(Value.slice a0p a0n a0c), (Value.int .i64 a1), (Value.int .i64 a2)] w (fun v1 w1 =>
    dT v1 fun vs1 =>
    optP (vs1[0]?) fun v2 =>
    dS v2 fun p1 n1 c1 =>
    optP (vs1[1]?) fun v3 =>
    dI .i64 v3 fun x1 =>
    callP Try.prog 11 #[(Value.slice a0p a0n a0c), (Value.int .i64 a1), (Value.int .i64 a2)] w1 (fun v4 w3 =>
      dT v4 fun vs2 =>
      optP (vs2[0]?) fun v5 =>
      dS v5 fun p2 n2 c2 =>
      optP (vs2[1]?) fun v6 =>
      dI .i64 v6 fun x2 =>
      callP Try.prog 12 #[] w3 (fun v7 w5 =>
        dB v7 fun b1 =>
        cond b1 (
          cond (x1 == x2) (
            ∃ (ns1 : List Int), ns1.length = n1 ∧ CellsO w5 p1 (ns1.map (Value.int .u8)) ∧
            (∃ (ns2 : List Int), ns2.length = n2 ∧ CellsO w5 p2 (ns2.map (Value.int .u8)) ∧
              (R (.returned (Value.bool ((strOf ns1).toList == (strOf ns2).toList))) w5))) (
            R (.returned (Value.bool false)) w5)) (
          R (.returned (Value.bool false)) w5)) (fun ch w6 => R (.panicked ch) w6)) (fun ch w4 => R (.panicked ch) w4)) (fun ch w2 => R (.panicked ch) w2)
abbrev stopcocklaw04_CellPuts.C (a0p : Option Addr) (a0n : Nat) (a0c : Nat) (a1 : Int) (a2 : Int) (w : World) (R : Ending → World → Prop) : Prop := Calls Try.prog 3 #[(Value.slice a0p a0n a0c), (Value.int .i64 a1), (Value.int .i64 a2)] w R
noncomputable def stopcocklaw04_CellPuts.code : Code := (Try.f3.body).getD .skip
noncomputable def stopcocklaw04_CellPuts.sk (R : Ending → World → Prop) : Sk := .leaf
def stopcocklaw04_CellPuts.owed (R : Ending → World → Prop) : Prop :=
  True
theorem stopcocklaw04_CellPuts.pays (R : Ending → World → Prop) : stopcocklaw04_CellPuts.owed R := trivial
set_option maxRecDepth 100000 in
theorem stopcocklaw04_CellPuts.ok {a0p : Option Addr} {a0n : Nat} {a0c : Nat} {a1 : Int} {a2 : Int} {w : World} {R : Ending → World → Prop} (h : stopcocklaw04_CellPuts.main a0p a0n a0c a1 a2 w R) : stopcocklaw04_CellPuts.C a0p a0n a0c a1 a2 w R :=
  ev_ok cxok (c := cx) Try.func3 (code := stopcocklaw04_CellPuts.code) (by kernel_rfl) [.tmp 6] (by kernel_rfl) 38 (by kernel_rfl) (stopcocklaw04_CellPuts.sk R) (args := [(Value.slice a0p a0n a0c), (Value.int .i64 a1), (Value.int .i64 a2)]) (Nat.le_of_ble_eq_true rfl) (by kernel_rfl) (o := stopcocklaw04_CellPuts.owed R) (by kernel_rfl) (stopcocklaw04_CellPuts.pays R) h

/-! ### stopcock/cell.Put: function 10 -/
def cell_Put.main (a0p : Option Addr) (a0n : Nat) (a0c : Nat) (a1 : Int) (a2 : Int) (w : World) (R : Ending → World → Prop) : Prop :=
  callP Try.prog 20 #[(Value.int .i64 a1)] w (fun v1 w1 =>
    dB v1 fun b1 =>
    cond (!b1) (
      R (.returned (Value.tuple #[(Value.slice none 0 0), (Value.int .i64 1)])) w1) (
      callP Try.prog 22 #[(Value.slice a0p a0n a0c)] w1 (fun v2 w3 =>
        dS v2 fun p1 n1 c1 =>
        callP Try.prog 21 #[(Value.slice p1 n1 c1), (Value.int .i64 a1), (Value.int .i64 a2)] w3 (fun v3 w5 =>
          dT v3 fun vs1 =>
          optP (vs1[0]?) fun v4 =>
          dS v4 fun p2 n2 c2 =>
          optP (vs1[1]?) fun v5 =>
          dI .i64 v5 fun x1 =>
          R (.returned (Value.tuple #[(Value.slice p2 n2 c2), (Value.int .i64 x1)])) w5) (fun ch w6 => R (.panicked ch) w6)) (fun ch w4 => R (.panicked ch) w4))) (fun ch w2 => R (.panicked ch) w2)
abbrev cell_Put.C (a0p : Option Addr) (a0n : Nat) (a0c : Nat) (a1 : Int) (a2 : Int) (w : World) (R : Ending → World → Prop) : Prop := Calls Try.prog 10 #[(Value.slice a0p a0n a0c), (Value.int .i64 a1), (Value.int .i64 a2)] w R
noncomputable def cell_Put.code : Code := (Try.f10.body).getD .skip
noncomputable def cell_Put.sk (R : Ending → World → Prop) : Sk := .leaf
def cell_Put.owed (R : Ending → World → Prop) : Prop :=
  True
theorem cell_Put.pays (R : Ending → World → Prop) : cell_Put.owed R := trivial
set_option maxRecDepth 100000 in
theorem cell_Put.ok {a0p : Option Addr} {a0n : Nat} {a0c : Nat} {a1 : Int} {a2 : Int} {w : World} {R : Ending → World → Prop} (h : cell_Put.main a0p a0n a0c a1 a2 w R) : cell_Put.C a0p a0n a0c a1 a2 w R :=
  ev_ok cxok (c := cx) Try.func10 (code := cell_Put.code) (by kernel_rfl) [.tmp 6, .tmp 7] (by kernel_rfl) 18 (by kernel_rfl) (cell_Put.sk R) (args := [(Value.slice a0p a0n a0c), (Value.int .i64 a1), (Value.int .i64 a2)]) (Nat.le_of_ble_eq_true rfl) (by kernel_rfl) (o := cell_Put.owed R) (by kernel_rfl) (cell_Put.pays R) h

/-! ### stopcock/stopcockref04.Put: function 11 -/
def stopcockref04_Put.b1 (t2 : Int) (t8p : Option Addr) (t8n : Nat) (t8c : Nat) (t9 : Int) (w : World) (R : Ending → World → Prop) (C1 : Int → Option Addr → Nat → Nat → Int → World → Prop) : Prop :=
  cond (decide (t9 ≥ 0)) (
    callP Try.prog 23 #[(Value.int .i64 t9)] w (fun v2 w5 =>
      dI .i64 v2 fun x2 =>
      chk (decide (x2 ≠ 0)) (
        newP w5 #[(Value.int .u8 (IntKind.u8.wrap (Int.tmod (IntKind.i64.wrap (Int.tdiv t2 x2)) 256)))] 5 fun b2 w7 =>
        appP w7 t8p t8n t8c 1 (CellsO w7 (some ⟨b2, 0, none⟩)) 5 1 1 #[(Value.int .u8 0)] fun p2 c2 w8 =>
        C1 t2 p2 (t8n + 1) c2 (IntKind.i64.wrap (t9 - 1)) w8)) (fun ch w6 => R (.panicked ch) w6)) (
    R (.returned (Value.tuple #[(Value.slice t8p t8n t8c), (Value.int .i64 0)])) w)
def stopcockref04_Put.l1 (t2 : Int) (t8p : Option Addr) (t8n : Nat) (t8c : Nat) (t9 : Int) (w : World) (R : Ending → World → Prop) : Prop :=
  ∃ (I : Int → Option Addr → Nat → Nat → Int → World → Prop) (m : Int → Option Addr → Nat → Nat → Int → World → Nat), I t2 t8p t8n t8c t9 w ∧
  ∀ (t2 : Int) (t8p : Option Addr) (t8n : Nat) (t8c : Nat) (t9 : Int) (w : World), I t2 t8p t8n t8c t9 w →
  stopcockref04_Put.b1 t2 t8p t8n t8c t9 w R (fun t2' t8p' t8n' t8c' t9' w' => I t2' t8p' t8n' t8c' t9' w' ∧ m t2' t8p' t8n' t8c' t9' w' < m t2 t8p t8n t8c t9 w)
def stopcockref04_Put.main (a0p : Option Addr) (a0n : Nat) (a0c : Nat) (a1 : Int) (a2 : Int) (w : World) (R : Ending → World → Prop) : Prop :=
  cond (decide (a1 < 1)) (
    R (.returned (Value.tuple #[(Value.slice none 0 0), (Value.int .i64 1)])) w) (
    cond (decide (a1 > 4)) (
      R (.returned (Value.tuple #[(Value.slice none 0 0), (Value.int .i64 1)])) w) (
      cond (decide (a2 < 0)) (
        R (.returned (Value.tuple #[(Value.slice none 0 0), (Value.int .i64 5)])) w) (
        callP Try.prog 23 #[(Value.int .i64 a1)] w (fun v1 w1 =>
          dI .i64 v1 fun x1 =>
          cond (decide (a2 ≥ x1)) (
            R (.returned (Value.tuple #[(Value.slice none 0 0), (Value.int .i64 5)])) w1) (
            newP w1 #[] 5 fun b1 w3 =>
            appP w3 (some ⟨b1, 0, none⟩) 0 0 a0n (CellsO w3 a0p) 5 1 1 #[(Value.int .u8 0)] fun p1 c1 w4 =>
            stopcockref04_Put.l1 a2 p1 (0 + a0n) c1 (IntKind.i64.wrap (a1 - 1)) w4 R)) (fun ch w2 => R (.panicked ch) w2))))
abbrev stopcockref04_Put.C (a0p : Option Addr) (a0n : Nat) (a0c : Nat) (a1 : Int) (a2 : Int) (w : World) (R : Ending → World → Prop) : Prop := Calls Try.prog 11 #[(Value.slice a0p a0n a0c), (Value.int .i64 a1), (Value.int .i64 a2)] w R
noncomputable def stopcockref04_Put.code : Code := (Try.f11.body).getD .skip
noncomputable def stopcockref04_Put.sk (R : Ending → World → Prop) : Sk := (.seq .leaf (.seq .leaf (.seq .leaf (.seq .leaf (.seq (.seq .leaf (.block (.loop [(2, .int .i64), (8, .slice), (9, .int .i64)] (fun (t2 : Int) (t8p : Option Addr) (t8n : Nat) (t8c : Nat) (t9 : Int) (w : World) => stopcockref04_Put.l1 t2 t8p t8n t8c t9 w R) (fun (C1 : Int → Option Addr → Nat → Nat → Int → World → Prop) => .leaf)))) .leaf)))))
def stopcockref04_Put.owed (R : Ending → World → Prop) : Prop :=
  (∀ (t2 : Int) (t8p : Option Addr) (t8n : Nat) (t8c : Nat) (t9 : Int) (w : World), stopcockref04_Put.l1 t2 t8p t8n t8c t9 w R → stopcockref04_Put.l1 t2 t8p t8n t8c t9 w R) ∧ (∀ (C1 : Int → Option Addr → Nat → Nat → Int → World → Prop), True) ∧ True
theorem stopcockref04_Put.pays (R : Ending → World → Prop) : stopcockref04_Put.owed R := ⟨(fun _ _ _ _ _ _ h => h), (fun _ => trivial), trivial⟩
set_option maxRecDepth 100000 in
theorem stopcockref04_Put.ok {a0p : Option Addr} {a0n : Nat} {a0c : Nat} {a1 : Int} {a2 : Int} {w : World} {R : Ending → World → Prop} (h : stopcockref04_Put.main a0p a0n a0c a1 a2 w R) : stopcockref04_Put.C a0p a0n a0c a1 a2 w R :=
  ev_ok cxok (c := cx) Try.func11 (code := stopcockref04_Put.code) (by kernel_rfl) [.tmp 6, .tmp 7] (by kernel_rfl) 43 (by kernel_rfl) (stopcockref04_Put.sk R) (args := [(Value.slice a0p a0n a0c), (Value.int .i64 a1), (Value.int .i64 a2)]) (Nat.le_of_ble_eq_true rfl) (by kernel_rfl) (o := stopcockref04_Put.owed R) (by kernel_rfl) (stopcockref04_Put.pays R) h

/-! ### stopcock/stopcocklaw04.awake: function 12 -/
def stopcocklaw04_awake.main (w : World) (R : Ending → World → Prop) : Prop :=
  callP Try.prog 10 #[(Value.slice none 0 0), (Value.int .i64 3), (Value.int .i64 258)] w (fun v1 w1 =>
    dT v1 fun vs1 =>
    optP (vs1[0]?) fun v2 =>
    dS v2 fun p1 n1 c1 =>
    optP (vs1[1]?) fun v3 =>
    dI .i64 v3 fun x1 =>
    callP Try.prog 13 #[(Value.slice p1 n1 c1), (Value.int .i64 1), (Value.int .i64 2)] w1 (fun v4 w3 =>
      dT v4 fun vs2 =>
      optP (vs2[0]?) fun v5 =>
      dI .i64 v5 fun x2 =>
      optP (vs2[1]?) fun v6 =>
      dI .i64 v6 fun x3 =>
      cond (x1 == 0) (
        cond (x3 == 0) (
          ∃ (ns1 : List Int), ns1.length = n1 ∧ CellsO w3 p1 (ns1.map (Value.int .u8)) ∧
          (cond ((strOf ns1).toList == (⟨#[0, 1, 2]⟩ : ByteArray).toList) (
              R (.returned (Value.bool (x2 == 258))) w3) (
              R (.returned (Value.bool false)) w3))) (
          R (.returned (Value.bool false)) w3)) (
        R (.returned (Value.bool false)) w3)) (fun ch w4 => R (.panicked ch) w4)) (fun ch w2 => R (.panicked ch) w2)
abbrev stopcocklaw04_awake.C (w : World) (R : Ending → World → Prop) : Prop := Calls Try.prog 12 #[] w R
noncomputable def stopcocklaw04_awake.code : Code := (Try.f12.body).getD .skip
noncomputable def stopcocklaw04_awake.sk (R : Ending → World → Prop) : Sk := .leaf
def stopcocklaw04_awake.owed (R : Ending → World → Prop) : Prop :=
  True
theorem stopcocklaw04_awake.pays (R : Ending → World → Prop) : stopcocklaw04_awake.owed R := trivial
set_option maxRecDepth 100000 in
theorem stopcocklaw04_awake.ok {w : World} {R : Ending → World → Prop} (h : stopcocklaw04_awake.main  w R) : stopcocklaw04_awake.C  w R :=
  ev_ok cxok (c := cx) Try.func12 (code := stopcocklaw04_awake.code) (by kernel_rfl) [.tmp 0] (by kernel_rfl) 29 (by kernel_rfl) (stopcocklaw04_awake.sk R) (args := []) (Nat.le_of_ble_eq_true rfl) (by kernel_rfl) (o := stopcocklaw04_awake.owed R) (by kernel_rfl) (stopcocklaw04_awake.pays R) h

/-! ### stopcock/cell.Get: function 13 -/
def cell_Get.main (a0p : Option Addr) (a0n : Nat) (a0c : Nat) (a1 : Int) (a2 : Int) (w : World) (R : Ending → World → Prop) : Prop :=
  callP Try.prog 20 #[(Value.int .i64 a2)] w (fun v1 w1 =>
    dB v1 fun b1 =>
    cond (!b1) (
      R (.returned (Value.tuple #[(Value.int .i64 0), (Value.int .i64 1)])) w1) (
      cond (decide (a1 < 0)) (
        R (.returned (Value.tuple #[(Value.int .i64 0), (Value.int .i64 3)])) w1) (
        cond (decide (a1 > (IntKind.i64.wrap (((a0n : Nat) : Int) - a2)))) (
          R (.returned (Value.tuple #[(Value.int .i64 0), (Value.int .i64 3)])) w1) (
          chk (decide (0 ≤ (IntKind.i64.wrap (a1 + a2)))) (
            chk (decide ((IntKind.i64.wrap (a1 + a2)) ≤ ((a0c : Nat) : Int))) (
              chk (decide (0 ≤ a1)) (
                chk (decide (a1 ≤ (((IntKind.i64.wrap (a1 + a2)).toNat : Nat) : Int))) (
                  callP Try.prog 24 #[(Value.slice (slA a0p a0c a1.toNat 1) ((IntKind.i64.wrap (a1 + a2)).toNat - a1.toNat) (a0c - a1.toNat))] w1 (fun v2 w3 =>
                    dI .i64 v2 fun x1 =>
                    R (.returned (Value.tuple #[(Value.int .i64 x1), (Value.int .i64 0)])) w3) (fun ch w4 => R (.panicked ch) w4))))))))) (fun ch w2 => R (.panicked ch) w2)
abbrev cell_Get.C (a0p : Option Addr) (a0n : Nat) (a0c : Nat) (a1 : Int) (a2 : Int) (w : World) (R : Ending → World → Prop) : Prop := Calls Try.prog 13 #[(Value.slice a0p a0n a0c), (Value.int .i64 a1), (Value.int .i64 a2)] w R
noncomputable def cell_Get.code : Code := (Try.f13.body).getD .skip
noncomputable def cell_Get.sk (R : Ending → World → Prop) : Sk := .leaf
def cell_Get.owed (R : Ending → World → Prop) : Prop :=
  True
theorem cell_Get.pays (R : Ending → World → Prop) : cell_Get.owed R := trivial
set_option maxRecDepth 100000 in
theorem cell_Get.ok {a0p : Option Addr} {a0n : Nat} {a0c : Nat} {a1 : Int} {a2 : Int} {w : World} {R : Ending → World → Prop} (h : cell_Get.main a0p a0n a0c a1 a2 w R) : cell_Get.C a0p a0n a0c a1 a2 w R :=
  ev_ok cxok (c := cx) Try.func13 (code := cell_Get.code) (by kernel_rfl) [.tmp 6, .tmp 7] (by kernel_rfl) 30 (by kernel_rfl) (cell_Get.sk R) (args := [(Value.slice a0p a0n a0c), (Value.int .i64 a1), (Value.int .i64 a2)]) (Nat.le_of_ble_eq_true rfl) (by kernel_rfl) (o := cell_Get.owed R) (by kernel_rfl) (cell_Get.pays R) h

/-! ### stopcock/cell.size: function 20 -/
def cell_size.main (a0 : Int) (w : World) (R : Ending → World → Prop) : Prop :=
  cond (decide (a0 ≥ 1)) (
    R (.returned (Value.bool (decide (a0 ≤ 4)))) w) (
    R (.returned (Value.bool false)) w)
abbrev cell_size.C (a0 : Int) (w : World) (R : Ending → World → Prop) : Prop := Calls Try.prog 20 #[(Value.int .i64 a0)] w R
noncomputable def cell_size.code : Code := (Try.f20.body).getD .skip
noncomputable def cell_size.sk (R : Ending → World → Prop) : Sk := .leaf
def cell_size.owed (R : Ending → World → Prop) : Prop :=
  True
theorem cell_size.pays (R : Ending → World → Prop) : cell_size.owed R := trivial
set_option maxRecDepth 100000 in
theorem cell_size.ok {a0 : Int} {w : World} {R : Ending → World → Prop} (h : cell_size.main a0 w R) : cell_size.C a0 w R :=
  ev_ok cxok (c := cx) Try.func20 (code := cell_size.code) (by kernel_rfl) [.tmp 2] (by kernel_rfl) 9 (by kernel_rfl) (cell_size.sk R) (args := [(Value.int .i64 a0)]) (Nat.le_of_ble_eq_true rfl) (by kernel_rfl) (o := cell_size.owed R) (by kernel_rfl) (cell_size.pays R) h

/-! ### stopcock/cell.put: function 21 -/
def cell_put.b1 (t0p : Option Addr) (t0n : Nat) (t0c : Nat) (t2 : Int) (t8 : Int) (w : World) (R : Ending → World → Prop) (C1 : Option Addr → Nat → Nat → Int → Int → World → Prop) : Prop :=
  cond (decide (t8 ≥ 0)) (
    chk (decide (0 ≤ (IntKind.i64.wrap (8 * t8)))) (
      newP w #[(Value.int .u8 (IntKind.u8.wrap (Int.fdiv t2 (2 ^ (min (IntKind.i64.wrap (8 * t8)).toNat IntKind.i64.bits)))))] 5 fun b1 w1 =>
      appP w1 t0p t0n t0c 1 (CellsO w1 (some ⟨b1, 0, none⟩)) 5 1 1 #[(Value.int .u8 0)] fun p1 c1 w2 =>
      C1 p1 (t0n + 1) c1 t2 (IntKind.i64.wrap (t8 - 1)) w2)) (
    R (.returned (Value.tuple #[(Value.slice t0p t0n t0c), (Value.int .i64 0)])) w)
def cell_put.l1 (t0p : Option Addr) (t0n : Nat) (t0c : Nat) (t2 : Int) (t8 : Int) (w : World) (R : Ending → World → Prop) : Prop :=
  ∃ (I : Option Addr → Nat → Nat → Int → Int → World → Prop) (m : Option Addr → Nat → Nat → Int → Int → World → Nat), I t0p t0n t0c t2 t8 w ∧
  ∀ (t0p : Option Addr) (t0n : Nat) (t0c : Nat) (t2 : Int) (t8 : Int) (w : World), I t0p t0n t0c t2 t8 w →
  cell_put.b1 t0p t0n t0c t2 t8 w R (fun t0p' t0n' t0c' t2' t8' w' => I t0p' t0n' t0c' t2' t8' w' ∧ m t0p' t0n' t0c' t2' t8' w' < m t0p t0n t0c t2 t8 w)
def cell_put.main (a0p : Option Addr) (a0n : Nat) (a0c : Nat) (a1 : Int) (a2 : Int) (w : World) (R : Ending → World → Prop) : Prop :=
  cond (decide (a2 < 0)) (
    R (.returned (Value.tuple #[(Value.slice none 0 0), (Value.int .i64 5)])) w) (
    chk (decide (0 ≤ (IntKind.i64.wrap (8 * a1)))) (
      cond ((Int.fdiv a2 (2 ^ (min (IntKind.i64.wrap (8 * a1)).toNat IntKind.i64.bits))) != 0) (
        R (.returned (Value.tuple #[(Value.slice none 0 0), (Value.int .i64 5)])) w) (
        cell_put.l1 a0p a0n a0c a2 (IntKind.i64.wrap (a1 - 1)) w R)))
abbrev cell_put.C (a0p : Option Addr) (a0n : Nat) (a0c : Nat) (a1 : Int) (a2 : Int) (w : World) (R : Ending → World → Prop) : Prop := Calls Try.prog 21 #[(Value.slice a0p a0n a0c), (Value.int .i64 a1), (Value.int .i64 a2)] w R
noncomputable def cell_put.code : Code := (Try.f21.body).getD .skip
noncomputable def cell_put.sk (R : Ending → World → Prop) : Sk := (.seq .leaf (.seq .leaf (.seq (.seq .leaf (.block (.loop [(0, .slice), (2, .int .i64), (8, .int .i64)] (fun (t0p : Option Addr) (t0n : Nat) (t0c : Nat) (t2 : Int) (t8 : Int) (w : World) => cell_put.l1 t0p t0n t0c t2 t8 w R) (fun (C1 : Option Addr → Nat → Nat → Int → Int → World → Prop) => .leaf)))) .leaf)))
def cell_put.owed (R : Ending → World → Prop) : Prop :=
  (∀ (t0p : Option Addr) (t0n : Nat) (t0c : Nat) (t2 : Int) (t8 : Int) (w : World), cell_put.l1 t0p t0n t0c t2 t8 w R → cell_put.l1 t0p t0n t0c t2 t8 w R) ∧ (∀ (C1 : Option Addr → Nat → Nat → Int → Int → World → Prop), True) ∧ True
theorem cell_put.pays (R : Ending → World → Prop) : cell_put.owed R := ⟨(fun _ _ _ _ _ _ h => h), (fun _ => trivial), trivial⟩
set_option maxRecDepth 100000 in
theorem cell_put.ok {a0p : Option Addr} {a0n : Nat} {a0c : Nat} {a1 : Int} {a2 : Int} {w : World} {R : Ending → World → Prop} (h : cell_put.main a0p a0n a0c a1 a2 w R) : cell_put.C a0p a0n a0c a1 a2 w R :=
  ev_ok cxok (c := cx) Try.func21 (code := cell_put.code) (by kernel_rfl) [.tmp 6, .tmp 7] (by kernel_rfl) 33 (by kernel_rfl) (cell_put.sk R) (args := [(Value.slice a0p a0n a0c), (Value.int .i64 a1), (Value.int .i64 a2)]) (Nat.le_of_ble_eq_true rfl) (by kernel_rfl) (o := cell_put.owed R) (by kernel_rfl) (cell_put.pays R) h

/-! ### bytes.Clone: function 22 -/
def bytes_Clone.main (a0p : Option Addr) (a0n : Nat) (a0c : Nat) (w : World) (R : Ending → World → Prop) : Prop :=
  cond (Option.isNone a0p) (
    R (.returned (Value.slice none 0 0)) w) (
    newP w #[] 5 fun b1 w1 =>
    appP w1 (some ⟨b1, 0, none⟩) 0 0 a0n (CellsO w1 a0p) 5 1 1 #[(Value.int .u8 0)] fun p1 c1 w2 =>
    R (.returned (Value.slice p1 (0 + a0n) c1)) w2)
abbrev bytes_Clone.C (a0p : Option Addr) (a0n : Nat) (a0c : Nat) (w : World) (R : Ending → World → Prop) : Prop := Calls Try.prog 22 #[(Value.slice a0p a0n a0c)] w R
noncomputable def bytes_Clone.code : Code := (Try.f22.body).getD .skip
noncomputable def bytes_Clone.sk (R : Ending → World → Prop) : Sk := .leaf
def bytes_Clone.owed (R : Ending → World → Prop) : Prop :=
  True
theorem bytes_Clone.pays (R : Ending → World → Prop) : bytes_Clone.owed R := trivial
set_option maxRecDepth 100000 in
theorem bytes_Clone.ok {a0p : Option Addr} {a0n : Nat} {a0c : Nat} {w : World} {R : Ending → World → Prop} (h : bytes_Clone.main a0p a0n a0c w R) : bytes_Clone.C a0p a0n a0c w R :=
  ev_ok cxok (c := cx) Try.func22 (code := bytes_Clone.code) (by kernel_rfl) [.tmp 2] (by kernel_rfl) 8 (by kernel_rfl) (bytes_Clone.sk R) (args := [(Value.slice a0p a0n a0c)]) (Nat.le_of_ble_eq_true rfl) (by kernel_rfl) (o := bytes_Clone.owed R) (by kernel_rfl) (bytes_Clone.pays R) h

/-! ### stopcock/stopcockref04.limit: function 23 -/
def stopcockref04_limit.b1 (t0 : Int) (t3 : Int) (t4 : Int) (w : World) (R : Ending → World → Prop) (C1 : Int → Int → Int → World → Prop) : Prop :=
  cond (decide (t4 < t0)) (
    C1 t0 (IntKind.i64.wrap (t3 * 256)) (IntKind.i64.wrap (t4 + 1)) w) (
    R (.returned (Value.int .i64 t3)) w)
def stopcockref04_limit.l1 (t0 : Int) (t3 : Int) (t4 : Int) (w : World) (R : Ending → World → Prop) : Prop :=
  ∃ (I : Int → Int → Int → World → Prop) (m : Int → Int → Int → World → Nat), I t0 t3 t4 w ∧
  ∀ (t0 : Int) (t3 : Int) (t4 : Int) (w : World), I t0 t3 t4 w →
  stopcockref04_limit.b1 t0 t3 t4 w R (fun t0' t3' t4' w' => I t0' t3' t4' w' ∧ m t0' t3' t4' w' < m t0 t3 t4 w)
def stopcockref04_limit.main (a0 : Int) (w : World) (R : Ending → World → Prop) : Prop :=
  stopcockref04_limit.l1 a0 1 0 w R
abbrev stopcockref04_limit.C (a0 : Int) (w : World) (R : Ending → World → Prop) : Prop := Calls Try.prog 23 #[(Value.int .i64 a0)] w R
noncomputable def stopcockref04_limit.code : Code := (Try.f23.body).getD .skip
noncomputable def stopcockref04_limit.sk (R : Ending → World → Prop) : Sk := (.seq .leaf (.seq .leaf (.seq (.seq .leaf (.block (.loop [(0, .int .i64), (3, .int .i64), (4, .int .i64)] (fun (t0 : Int) (t3 : Int) (t4 : Int) (w : World) => stopcockref04_limit.l1 t0 t3 t4 w R) (fun (C1 : Int → Int → Int → World → Prop) => .leaf)))) .leaf)))
def stopcockref04_limit.owed (R : Ending → World → Prop) : Prop :=
  (∀ (t0 : Int) (t3 : Int) (t4 : Int) (w : World), stopcockref04_limit.l1 t0 t3 t4 w R → stopcockref04_limit.l1 t0 t3 t4 w R) ∧ (∀ (C1 : Int → Int → Int → World → Prop), True) ∧ True
theorem stopcockref04_limit.pays (R : Ending → World → Prop) : stopcockref04_limit.owed R := ⟨(fun _ _ _ _ h => h), (fun _ => trivial), trivial⟩
set_option maxRecDepth 100000 in
theorem stopcockref04_limit.ok {a0 : Int} {w : World} {R : Ending → World → Prop} (h : stopcockref04_limit.main a0 w R) : stopcockref04_limit.C a0 w R :=
  ev_ok cxok (c := cx) Try.func23 (code := stopcockref04_limit.code) (by kernel_rfl) [.tmp 2] (by kernel_rfl) 13 (by kernel_rfl) (stopcockref04_limit.sk R) (args := [(Value.int .i64 a0)]) (Nat.le_of_ble_eq_true rfl) (by kernel_rfl) (o := stopcockref04_limit.owed R) (by kernel_rfl) (stopcockref04_limit.pays R) h

/-! ### stopcock/cell.get: function 24 -/
def cell_get.b1 (t3 : Int) (t6p : Option Addr) (t6n : Nat) (t6c : Nat) (t7 : Int) (t8 : Int) (w : World) (R : Ending → World → Prop) (C1 : Int → Option Addr → Nat → Nat → Int → Int → World → Prop) : Prop :=
  cond (decide (t8 < t7)) (
    chk (decide (0 ≤ t8)) (
      chk (decide (t8 < ((t6n : Nat) : Int))) (
        optP t6p fun a1 =>
        ∃ (x1 : Int), w.cell? (a1.add (t8.toNat * 1)) = some (Value.int .u8 x1) ∧
        (C1 (IntKind.i64.wrap (BitVec.ofInt IntKind.i64.bits (IntKind.i64.wrap (t3 * 2 ^ (min 8 IntKind.i64.bits))) ||| BitVec.ofInt IntKind.i64.bits (IntKind.i64.wrap x1)).toNat) t6p t6n t6c t7 (IntKind.i64.wrap (t8 + 1)) w)))) (
    R (.returned (Value.int .i64 t3)) w)
def cell_get.l1 (t3 : Int) (t6p : Option Addr) (t6n : Nat) (t6c : Nat) (t7 : Int) (t8 : Int) (w : World) (R : Ending → World → Prop) : Prop :=
  ∃ (I : Int → Option Addr → Nat → Nat → Int → Int → World → Prop) (m : Int → Option Addr → Nat → Nat → Int → Int → World → Nat), I t3 t6p t6n t6c t7 t8 w ∧
  ∀ (t3 : Int) (t6p : Option Addr) (t6n : Nat) (t6c : Nat) (t7 : Int) (t8 : Int) (w : World), I t3 t6p t6n t6c t7 t8 w →
  cell_get.b1 t3 t6p t6n t6c t7 t8 w R (fun t3' t6p' t6n' t6c' t7' t8' w' => I t3' t6p' t6n' t6c' t7' t8' w' ∧ m t3' t6p' t6n' t6c' t7' t8' w' < m t3 t6p t6n t6c t7 t8 w)
def cell_get.main (a0p : Option Addr) (a0n : Nat) (a0c : Nat) (w : World) (R : Ending → World → Prop) : Prop :=
  cell_get.l1 0 a0p a0n a0c ((a0n : Nat) : Int) 0 w R
abbrev cell_get.C (a0p : Option Addr) (a0n : Nat) (a0c : Nat) (w : World) (R : Ending → World → Prop) : Prop := Calls Try.prog 24 #[(Value.slice a0p a0n a0c)] w R
noncomputable def cell_get.code : Code := (Try.f24.body).getD .skip
noncomputable def cell_get.sk (R : Ending → World → Prop) : Sk := (.seq .leaf (.seq .leaf (.seq (.seq .leaf (.block (.loop [(3, .int .i64), (6, .slice), (7, .int .i64), (8, .int .i64)] (fun (t3 : Int) (t6p : Option Addr) (t6n : Nat) (t6c : Nat) (t7 : Int) (t8 : Int) (w : World) => cell_get.l1 t3 t6p t6n t6c t7 t8 w R) (fun (C1 : Int → Option Addr → Nat → Nat → Int → Int → World → Prop) => .leaf)))) .leaf)))
def cell_get.owed (R : Ending → World → Prop) : Prop :=
  (∀ (t3 : Int) (t6p : Option Addr) (t6n : Nat) (t6c : Nat) (t7 : Int) (t8 : Int) (w : World), cell_get.l1 t3 t6p t6n t6c t7 t8 w R → cell_get.l1 t3 t6p t6n t6c t7 t8 w R) ∧ (∀ (C1 : Int → Option Addr → Nat → Nat → Int → Int → World → Prop), True) ∧ True
theorem cell_get.pays (R : Ending → World → Prop) : cell_get.owed R := ⟨(fun _ _ _ _ _ _ _ h => h), (fun _ => trivial), trivial⟩
set_option maxRecDepth 100000 in
theorem cell_get.ok {a0p : Option Addr} {a0n : Nat} {a0c : Nat} {w : World} {R : Ending → World → Prop} (h : cell_get.main a0p a0n a0c w R) : cell_get.C a0p a0n a0c w R :=
  ev_ok cxok (c := cx) Try.func24 (code := cell_get.code) (by kernel_rfl) [.tmp 2] (by kernel_rfl) 19 (by kernel_rfl) (cell_get.sk R) (args := [(Value.slice a0p a0n a0c)]) (Nat.le_of_ble_eq_true rfl) (by kernel_rfl) (o := cell_get.owed R) (by kernel_rfl) (cell_get.pays R) h

/-! ### stopcock/stopcocklaw04.CellGets: function 4 -/
def stopcocklaw04_CellGets.main (a0p : Option Addr) (a0n : Nat) (a0c : Nat) (a1 : Int) (a2 : Int) (w : World) (R : Ending → World → Prop) : Prop :=
  callP Try.prog 13 #[(Value.slice a0p a0n a0c), (Value.int .i64 a1), (Value.int .i64 a2)] w (fun v1 w1 =>
    dT v1 fun vs1 =>
    optP (vs1[0]?) fun v2 =>
    dI .i64 v2 fun x1 =>
    optP (vs1[1]?) fun v3 =>
    dI .i64 v3 fun x2 =>
    callP Try.prog 14 #[(Value.slice a0p a0n a0c), (Value.int .i64 a1), (Value.int .i64 a2)] w1 (fun v4 w3 =>
      dT v4 fun vs2 =>
      optP (vs2[0]?) fun v5 =>
      dI .i64 v5 fun x3 =>
      optP (vs2[1]?) fun v6 =>
      dI .i64 v6 fun x4 =>
      callP Try.prog 12 #[] w3 (fun v7 w5 =>
        dB v7 fun b1 =>
        cond b1 (
          cond (x2 == x4) (
            R (.returned (Value.bool (x1 == x3))) w5) (
            R (.returned (Value.bool false)) w5)) (
          R (.returned (Value.bool false)) w5)) (fun ch w6 => R (.panicked ch) w6)) (fun ch w4 => R (.panicked ch) w4)) (fun ch w2 => R (.panicked ch) w2)
abbrev stopcocklaw04_CellGets.C (a0p : Option Addr) (a0n : Nat) (a0c : Nat) (a1 : Int) (a2 : Int) (w : World) (R : Ending → World → Prop) : Prop := Calls Try.prog 4 #[(Value.slice a0p a0n a0c), (Value.int .i64 a1), (Value.int .i64 a2)] w R
noncomputable def stopcocklaw04_CellGets.code : Code := (Try.f4.body).getD .skip
noncomputable def stopcocklaw04_CellGets.sk (R : Ending → World → Prop) : Sk := .leaf
def stopcocklaw04_CellGets.owed (R : Ending → World → Prop) : Prop :=
  True
theorem stopcocklaw04_CellGets.pays (R : Ending → World → Prop) : stopcocklaw04_CellGets.owed R := trivial
set_option maxRecDepth 100000 in
theorem stopcocklaw04_CellGets.ok {a0p : Option Addr} {a0n : Nat} {a0c : Nat} {a1 : Int} {a2 : Int} {w : World} {R : Ending → World → Prop} (h : stopcocklaw04_CellGets.main a0p a0n a0c a1 a2 w R) : stopcocklaw04_CellGets.C a0p a0n a0c a1 a2 w R :=
  ev_ok cxok (c := cx) Try.func4 (code := stopcocklaw04_CellGets.code) (by kernel_rfl) [.tmp 6] (by kernel_rfl) 36 (by kernel_rfl) (stopcocklaw04_CellGets.sk R) (args := [(Value.slice a0p a0n a0c), (Value.int .i64 a1), (Value.int .i64 a2)]) (Nat.le_of_ble_eq_true rfl) (by kernel_rfl) (o := stopcocklaw04_CellGets.owed R) (by kernel_rfl) (stopcocklaw04_CellGets.pays R) h

/-! ### stopcock/stopcockref04.Get: function 14 -/
def stopcockref04_Get.b1 (t0p : Option Addr) (t0n : Nat) (t0c : Nat) (t1 : Int) (t2 : Int) (t8 : Int) (t9 : Int) (w : World) (R : Ending → World → Prop) (C1 : Option Addr → Nat → Nat → Int → Int → Int → Int → World → Prop) : Prop :=
  cond (decide (t9 < t2)) (
    chk (decide (0 ≤ (IntKind.i64.wrap (t1 + t9)))) (
      chk (decide ((IntKind.i64.wrap (t1 + t9)) < ((t0n : Nat) : Int))) (
        optP t0p fun a1 =>
        ∃ (x1 : Int), w.cell? (a1.add ((IntKind.i64.wrap (t1 + t9)).toNat * 1)) = some (Value.int .u8 x1) ∧
        (C1 t0p t0n t0c t1 t2 (IntKind.i64.wrap ((IntKind.i64.wrap (t8 * 256)) + (IntKind.i64.wrap x1))) (IntKind.i64.wrap (t9 + 1)) w)))) (
    R (.returned (Value.tuple #[(Value.int .i64 t8), (Value.int .i64 0)])) w)
def stopcockref04_Get.l1 (t0p : Option Addr) (t0n : Nat) (t0c : Nat) (t1 : Int) (t2 : Int) (t8 : Int) (t9 : Int) (w : World) (R : Ending → World → Prop) : Prop :=
  ∃ (I : Option Addr → Nat → Nat → Int → Int → Int → Int → World → Prop) (m : Option Addr → Nat → Nat → Int → Int → Int → Int → World → Nat), I t0p t0n t0c t1 t2 t8 t9 w ∧
  ∀ (t0p : Option Addr) (t0n : Nat) (t0c : Nat) (t1 : Int) (t2 : Int) (t8 : Int) (t9 : Int) (w : World), I t0p t0n t0c t1 t2 t8 t9 w →
  stopcockref04_Get.b1 t0p t0n t0c t1 t2 t8 t9 w R (fun t0p' t0n' t0c' t1' t2' t8' t9' w' => I t0p' t0n' t0c' t1' t2' t8' t9' w' ∧ m t0p' t0n' t0c' t1' t2' t8' t9' w' < m t0p t0n t0c t1 t2 t8 t9 w)
def stopcockref04_Get.main (a0p : Option Addr) (a0n : Nat) (a0c : Nat) (a1 : Int) (a2 : Int) (w : World) (R : Ending → World → Prop) : Prop :=
  cond (decide (a2 < 1)) (
    R (.returned (Value.tuple #[(Value.int .i64 0), (Value.int .i64 1)])) w) (
    cond (decide (a2 > 4)) (
      R (.returned (Value.tuple #[(Value.int .i64 0), (Value.int .i64 1)])) w) (
      cond (decide (a1 < 0)) (
        R (.returned (Value.tuple #[(Value.int .i64 0), (Value.int .i64 3)])) w) (
        cond (decide (a1 > ((a0n : Nat) : Int))) (
          R (.returned (Value.tuple #[(Value.int .i64 0), (Value.int .i64 3)])) w) (
          cond (decide ((IntKind.i64.wrap (((a0n : Nat) : Int) - a1)) < a2)) (
            R (.returned (Value.tuple #[(Value.int .i64 0), (Value.int .i64 3)])) w) (
            stopcockref04_Get.l1 a0p a0n a0c a1 a2 0 0 w R)))))
abbrev stopcockref04_Get.C (a0p : Option Addr) (a0n : Nat) (a0c : Nat) (a1 : Int) (a2 : Int) (w : World) (R : Ending → World → Prop) : Prop := Calls Try.prog 14 #[(Value.slice a0p a0n a0c), (Value.int .i64 a1), (Value.int .i64 a2)] w R
noncomputable def stopcockref04_Get.code : Code := (Try.f14.body).getD .skip
noncomputable def stopcockref04_Get.sk (R : Ending → World → Prop) : Sk := (.seq .leaf (.seq .leaf (.seq .leaf (.seq .leaf (.seq (.seq .leaf (.block (.loop [(0, .slice), (1, .int .i64), (2, .int .i64), (8, .int .i64), (9, .int .i64)] (fun (t0p : Option Addr) (t0n : Nat) (t0c : Nat) (t1 : Int) (t2 : Int) (t8 : Int) (t9 : Int) (w : World) => stopcockref04_Get.l1 t0p t0n t0c t1 t2 t8 t9 w R) (fun (C1 : Option Addr → Nat → Nat → Int → Int → Int → Int → World → Prop) => .leaf)))) .leaf)))))
def stopcockref04_Get.owed (R : Ending → World → Prop) : Prop :=
  (∀ (t0p : Option Addr) (t0n : Nat) (t0c : Nat) (t1 : Int) (t2 : Int) (t8 : Int) (t9 : Int) (w : World), stopcockref04_Get.l1 t0p t0n t0c t1 t2 t8 t9 w R → stopcockref04_Get.l1 t0p t0n t0c t1 t2 t8 t9 w R) ∧ (∀ (C1 : Option Addr → Nat → Nat → Int → Int → Int → Int → World → Prop), True) ∧ True
theorem stopcockref04_Get.pays (R : Ending → World → Prop) : stopcockref04_Get.owed R := ⟨(fun _ _ _ _ _ _ _ _ h => h), (fun _ => trivial), trivial⟩
set_option maxRecDepth 100000 in
theorem stopcockref04_Get.ok {a0p : Option Addr} {a0n : Nat} {a0c : Nat} {a1 : Int} {a2 : Int} {w : World} {R : Ending → World → Prop} (h : stopcockref04_Get.main a0p a0n a0c a1 a2 w R) : stopcockref04_Get.C a0p a0n a0c a1 a2 w R :=
  ev_ok cxok (c := cx) Try.func14 (code := stopcockref04_Get.code) (by kernel_rfl) [.tmp 6, .tmp 7] (by kernel_rfl) 48 (by kernel_rfl) (stopcockref04_Get.sk R) (args := [(Value.slice a0p a0n a0c), (Value.int .i64 a1), (Value.int .i64 a2)]) (Nat.le_of_ble_eq_true rfl) (by kernel_rfl) (o := stopcockref04_Get.owed R) (by kernel_rfl) (stopcockref04_Get.pays R) h

end Go.Proofs.Ytlcnjadfkpkgjaa.G

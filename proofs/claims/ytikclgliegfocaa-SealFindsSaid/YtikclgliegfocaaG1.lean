/- Statements of functions, and that their calls do what they say. Printed by wip/tool/dec.py. Conditions: none. -/
import Derived.Test.YtikclgliegfocaaG0
namespace Go.Proofs.Ytikclgliegfocaa.G
open Go.Dec
set_option linter.unusedVariables false

/-! ### stopcock/stopcocklaw03.SealSums: function 3 -/
def stopcocklaw03_SealSums.main (a0 : Int) (a1p : Option Addr) (a1n : Nat) (a1c : Nat) (w : World) (R : Ending → World → Prop) : Prop :=
  callP Try.prog 9 #[] w (fun v1 w1 =>
    dB v1 fun b1 =>
    cond b1 (
      callP Try.prog 10 #[(Value.slice a1p a1n a1c)] w1 (fun v2 w3 =>
        dI .u32 v2 fun x1 =>
        callP Try.prog 11 #[(Value.slice a1p a1n a1c)] w3 (fun v3 w5 =>
          dI .u32 v3 fun x2 =>
          cond (x1 == x2) (
            callP Try.prog 12 #[(Value.int .u32 a0), (Value.slice a1p a1n a1c)] w5 (fun v4 w7 =>
              dI .u32 v4 fun x3 =>
              callP Try.prog 13 #[(Value.int .u32 a0), (Value.slice a1p a1n a1c)] w7 (fun v5 w9 =>
                dI .u32 v5 fun x4 =>
                R (.returned (Value.bool (x3 == x4))) w9) (fun ch w10 => R (.panicked ch) w10)) (fun ch w8 => R (.panicked ch) w8)) (
            R (.returned (Value.bool false)) w5)) (fun ch w6 => R (.panicked ch) w6)) (fun ch w4 => R (.panicked ch) w4)) (
      R (.returned (Value.bool false)) w1)) (fun ch w2 => R (.panicked ch) w2)
abbrev stopcocklaw03_SealSums.C (a0 : Int) (a1p : Option Addr) (a1n : Nat) (a1c : Nat) (w : World) (R : Ending → World → Prop) : Prop := Calls Try.prog 3 #[(Value.int .u32 a0), (Value.slice a1p a1n a1c)] w R
noncomputable def stopcocklaw03_SealSums.code : Code := (Try.f3.body).getD .skip
noncomputable def stopcocklaw03_SealSums.sk (R : Ending → World → Prop) : Sk := .leaf
def stopcocklaw03_SealSums.owed (R : Ending → World → Prop) : Prop :=
  True
theorem stopcocklaw03_SealSums.pays (R : Ending → World → Prop) : stopcocklaw03_SealSums.owed R := trivial
set_option maxRecDepth 100000 in
theorem stopcocklaw03_SealSums.ok {a0 : Int} {a1p : Option Addr} {a1n : Nat} {a1c : Nat} {w : World} {R : Ending → World → Prop} (h : stopcocklaw03_SealSums.main a0 a1p a1n a1c w R) : stopcocklaw03_SealSums.C a0 a1p a1n a1c w R :=
  ev_ok cxok (c := cx) Try.func3 (code := stopcocklaw03_SealSums.code) (by kernel_rfl) [.tmp 4] (by kernel_rfl) 22 (by kernel_rfl) (stopcocklaw03_SealSums.sk R) (args := [(Value.int .u32 a0), (Value.slice a1p a1n a1c)]) (Nat.le_of_ble_eq_true rfl) (by kernel_rfl) (o := stopcocklaw03_SealSums.owed R) (by kernel_rfl) (stopcocklaw03_SealSums.pays R) h

/-! ### stopcock/stopcocklaw03.awake: function 9 -/
def stopcocklaw03_awake.main (w : World) (R : Ending → World → Prop) : Prop :=
  newP w #[(Value.int .u8 97), (Value.int .u8 98)] 5 fun b1 w1 =>
  markP w1 ⟨b1, 0, none⟩ fun w2 =>
  callP Try.prog 14 #[(Value.slice (some ⟨b1, 0, none⟩) 2 2)] w2 (fun v1 w3 =>
    dT v1 fun vs1 =>
    optP (vs1[0]?) fun v2 =>
    dS v2 fun p1 n1 c1 =>
    optP (vs1[1]?) fun v3 =>
    dI .i64 v3 fun x1 =>
    callP Try.prog 16 #[(Value.slice p1 n1 c1)] w3 (fun v4 w5 =>
      dT v4 fun vs2 =>
      optP (vs2[0]?) fun v5 =>
      dS v5 fun p2 n2 c2 =>
      optP (vs2[1]?) fun v6 =>
      dI .i64 v6 fun x2 =>
      newP w5 #[(Value.int .u8 49), (Value.int .u8 50), (Value.int .u8 51), (Value.int .u8 52), (Value.int .u8 53), (Value.int .u8 54), (Value.int .u8 55), (Value.int .u8 56), (Value.int .u8 57)] 5 fun b2 w7 =>
      markP w7 ⟨b2, 0, none⟩ fun w8 =>
      callP Try.prog 10 #[(Value.slice (some ⟨b2, 0, none⟩) 9 9)] w8 (fun v7 w9 =>
        dI .u32 v7 fun x3 =>
        cond (x3 == 4236843288) (
          cond (x1 == 0) (
            cond (x2 == 0) (
              cond (((n1 : Nat) : Int) == 64) (
                cond (((n2 : Nat) : Int) == 60) (
                  chk (decide (2 ≤ ((c2 : Nat) : Int))) (
                    ∃ (ns1 : List Int), ns1.length = 2 ∧ CellsO w9 (slA p2 c2 0 1) (ns1.map (Value.int .u8)) ∧
                    (R (.returned (Value.bool ((strOf ns1).toList == (⟨#[97, 98]⟩ : ByteArray).toList))) w9))) (
                  R (.returned (Value.bool false)) w9)) (
                R (.returned (Value.bool false)) w9)) (
              R (.returned (Value.bool false)) w9)) (
            R (.returned (Value.bool false)) w9)) (
          R (.returned (Value.bool false)) w9)) (fun ch w10 => R (.panicked ch) w10)) (fun ch w6 => R (.panicked ch) w6)) (fun ch w4 => R (.panicked ch) w4)
abbrev stopcocklaw03_awake.C (w : World) (R : Ending → World → Prop) : Prop := Calls Try.prog 9 #[] w R
noncomputable def stopcocklaw03_awake.code : Code := (Try.f9.body).getD .skip
noncomputable def stopcocklaw03_awake.sk (R : Ending → World → Prop) : Sk := .leaf
def stopcocklaw03_awake.owed (R : Ending → World → Prop) : Prop :=
  True
theorem stopcocklaw03_awake.pays (R : Ending → World → Prop) : stopcocklaw03_awake.owed R := trivial
set_option maxRecDepth 100000 in
theorem stopcocklaw03_awake.ok {w : World} {R : Ending → World → Prop} (h : stopcocklaw03_awake.main  w R) : stopcocklaw03_awake.C  w R :=
  ev_ok cxok (c := cx) Try.func9 (code := stopcocklaw03_awake.code) (by kernel_rfl) [.tmp 0] (by kernel_rfl) 44 (by kernel_rfl) (stopcocklaw03_awake.sk R) (args := []) (Nat.le_of_ble_eq_true rfl) (by kernel_rfl) (o := stopcocklaw03_awake.owed R) (by kernel_rfl) (stopcocklaw03_awake.pays R) h

/-! ### stopcock/seal.Sum: function 10 -/
def seal_Sum.main (a0p : Option Addr) (a0n : Nat) (a0c : Nat) (w : World) (R : Ending → World → Prop) : Prop :=
  callP Try.prog 12 #[(Value.int .u32 0), (Value.slice a0p a0n a0c)] w (fun v1 w1 =>
    dI .u32 v1 fun x1 =>
    R (.returned (Value.int .u32 x1)) w1) (fun ch w2 => R (.panicked ch) w2)
abbrev seal_Sum.C (a0p : Option Addr) (a0n : Nat) (a0c : Nat) (w : World) (R : Ending → World → Prop) : Prop := Calls Try.prog 10 #[(Value.slice a0p a0n a0c)] w R
noncomputable def seal_Sum.code : Code := (Try.f10.body).getD .skip
noncomputable def seal_Sum.sk (R : Ending → World → Prop) : Sk := .leaf
def seal_Sum.owed (R : Ending → World → Prop) : Prop :=
  True
theorem seal_Sum.pays (R : Ending → World → Prop) : seal_Sum.owed R := trivial
set_option maxRecDepth 100000 in
theorem seal_Sum.ok {a0p : Option Addr} {a0n : Nat} {a0c : Nat} {w : World} {R : Ending → World → Prop} (h : seal_Sum.main a0p a0n a0c w R) : seal_Sum.C a0p a0n a0c w R :=
  ev_ok cxok (c := cx) Try.func10 (code := seal_Sum.code) (by kernel_rfl) [.tmp 2] (by kernel_rfl) 5 (by kernel_rfl) (seal_Sum.sk R) (args := [(Value.slice a0p a0n a0c)]) (Nat.le_of_ble_eq_true rfl) (by kernel_rfl) (o := seal_Sum.owed R) (by kernel_rfl) (seal_Sum.pays R) h

/-! ### stopcock/stopcockref03.Sum: function 11 -/
def stopcockref03_Sum.main (a0p : Option Addr) (a0n : Nat) (a0c : Nat) (w : World) (R : Ending → World → Prop) : Prop :=
  callP Try.prog 13 #[(Value.int .u32 0), (Value.slice a0p a0n a0c)] w (fun v1 w1 =>
    dI .u32 v1 fun x1 =>
    R (.returned (Value.int .u32 x1)) w1) (fun ch w2 => R (.panicked ch) w2)
abbrev stopcockref03_Sum.C (a0p : Option Addr) (a0n : Nat) (a0c : Nat) (w : World) (R : Ending → World → Prop) : Prop := Calls Try.prog 11 #[(Value.slice a0p a0n a0c)] w R
noncomputable def stopcockref03_Sum.code : Code := (Try.f11.body).getD .skip
noncomputable def stopcockref03_Sum.sk (R : Ending → World → Prop) : Sk := .leaf
def stopcockref03_Sum.owed (R : Ending → World → Prop) : Prop :=
  True
theorem stopcockref03_Sum.pays (R : Ending → World → Prop) : stopcockref03_Sum.owed R := trivial
set_option maxRecDepth 100000 in
theorem stopcockref03_Sum.ok {a0p : Option Addr} {a0n : Nat} {a0c : Nat} {w : World} {R : Ending → World → Prop} (h : stopcockref03_Sum.main a0p a0n a0c w R) : stopcockref03_Sum.C a0p a0n a0c w R :=
  ev_ok cxok (c := cx) Try.func11 (code := stopcockref03_Sum.code) (by kernel_rfl) [.tmp 2] (by kernel_rfl) 5 (by kernel_rfl) (stopcockref03_Sum.sk R) (args := [(Value.slice a0p a0n a0c)]) (Nat.le_of_ble_eq_true rfl) (by kernel_rfl) (o := stopcockref03_Sum.owed R) (by kernel_rfl) (stopcockref03_Sum.pays R) h

/-! ### stopcock/seal.More: function 12 -/
def seal_More.b1 (t5 : Int) (t10p : Option Addr) (t10n : Nat) (t10c : Nat) (t11 : Int) (t12 : Int) (w : World) (R : Ending → World → Prop) (C1 : Int → Option Addr → Nat → Nat → Int → Int → World → Prop) : Prop :=
  cond (decide (t12 < t11)) (
    chk (decide (0 ≤ t12)) (
      chk (decide (t12 < ((t10n : Nat) : Int))) (
        optP t10p fun a1 =>
        ∃ (x1 : Int), w.cell? (a1.add (t12.toNat * 1)) = some (Value.int .u8 x1) ∧
        (callP Try.prog 18 #[(Value.int .u32 (IntKind.u32.wrap (BitVec.ofInt IntKind.u32.bits t5 ^^^ BitVec.ofInt IntKind.u32.bits (IntKind.u32.wrap ((IntKind.u32.wrap x1) * 2 ^ (min 24 IntKind.u32.bits)))).toNat))] w (fun v1 w1 =>
            dI .u32 v1 fun x2 =>
            C1 x2 t10p t10n t10c t11 (IntKind.i64.wrap (t12 + 1)) w1) (fun ch w2 => R (.panicked ch) w2))))) (
    R (.returned (Value.int .u32 (IntKind.u32.wrap (BitVec.ofInt IntKind.u32.bits (if IntKind.u32.signed then -1 else IntKind.u32.max) ^^^ BitVec.ofInt IntKind.u32.bits t5).toNat))) w)
def seal_More.l1 (t5 : Int) (t10p : Option Addr) (t10n : Nat) (t10c : Nat) (t11 : Int) (t12 : Int) (w : World) (R : Ending → World → Prop) : Prop :=
  ∃ (I : Int → Option Addr → Nat → Nat → Int → Int → World → Prop) (m : Int → Option Addr → Nat → Nat → Int → Int → World → Nat), I t5 t10p t10n t10c t11 t12 w ∧
  ∀ (t5 : Int) (t10p : Option Addr) (t10n : Nat) (t10c : Nat) (t11 : Int) (t12 : Int) (w : World), I t5 t10p t10n t10c t11 t12 w →
  seal_More.b1 t5 t10p t10n t10c t11 t12 w R (fun t5' t10p' t10n' t10c' t11' t12' w' => I t5' t10p' t10n' t10c' t11' t12' w' ∧ m t5' t10p' t10n' t10c' t11' t12' w' < m t5 t10p t10n t10c t11 t12 w)
def seal_More.main (a0 : Int) (a1p : Option Addr) (a1n : Nat) (a1c : Nat) (w : World) (R : Ending → World → Prop) : Prop :=
  seal_More.l1 (IntKind.u32.wrap (BitVec.ofInt IntKind.u32.bits (if IntKind.u32.signed then -1 else IntKind.u32.max) ^^^ BitVec.ofInt IntKind.u32.bits a0).toNat) a1p a1n a1c ((a1n : Nat) : Int) 0 w R
abbrev seal_More.C (a0 : Int) (a1p : Option Addr) (a1n : Nat) (a1c : Nat) (w : World) (R : Ending → World → Prop) : Prop := Calls Try.prog 12 #[(Value.int .u32 a0), (Value.slice a1p a1n a1c)] w R
noncomputable def seal_More.code : Code := (Try.f12.body).getD .skip
noncomputable def seal_More.sk (R : Ending → World → Prop) : Sk := (.seq .leaf (.seq .leaf (.seq (.seq .leaf (.block (.loop [(5, .int .u32), (10, .slice), (11, .int .i64), (12, .int .i64)] (fun (t5 : Int) (t10p : Option Addr) (t10n : Nat) (t10c : Nat) (t11 : Int) (t12 : Int) (w : World) => seal_More.l1 t5 t10p t10n t10c t11 t12 w R) (fun (C1 : Int → Option Addr → Nat → Nat → Int → Int → World → Prop) => .leaf)))) .leaf)))
def seal_More.owed (R : Ending → World → Prop) : Prop :=
  (∀ (t5 : Int) (t10p : Option Addr) (t10n : Nat) (t10c : Nat) (t11 : Int) (t12 : Int) (w : World), seal_More.l1 t5 t10p t10n t10c t11 t12 w R → seal_More.l1 t5 t10p t10n t10c t11 t12 w R) ∧ (∀ (C1 : Int → Option Addr → Nat → Nat → Int → Int → World → Prop), True) ∧ True
theorem seal_More.pays (R : Ending → World → Prop) : seal_More.owed R := ⟨(fun _ _ _ _ _ _ _ h => h), (fun _ => trivial), trivial⟩
set_option maxRecDepth 100000 in
theorem seal_More.ok {a0 : Int} {a1p : Option Addr} {a1n : Nat} {a1c : Nat} {w : World} {R : Ending → World → Prop} (h : seal_More.main a0 a1p a1n a1c w R) : seal_More.C a0 a1p a1n a1c w R :=
  ev_ok cxok (c := cx) Try.func12 (code := seal_More.code) (by kernel_rfl) [.tmp 4] (by kernel_rfl) 25 (by kernel_rfl) (seal_More.sk R) (args := [(Value.int .u32 a0), (Value.slice a1p a1n a1c)]) (Nat.le_of_ble_eq_true rfl) (by kernel_rfl) (o := seal_More.owed R) (by kernel_rfl) (seal_More.pays R) h

/-! ### stopcock/stopcockref03.More: function 13 -/
def stopcockref03_More.b2 (t1p : Option Addr) (t1n : Nat) (t1c : Nat) (t5 : Int) (t6 : Int) (t7 : Int) (w : World) (R : Ending → World → Prop) (C1 : Option Addr → Nat → Nat → Int → Int → World → Prop) (C2 : Option Addr → Nat → Nat → Int → Int → Int → World → Prop) : Prop :=
  cond (decide (t7 ≥ 0)) (
    chk (decide (0 ≤ t6)) (
      chk (decide (t6 < ((t1n : Nat) : Int))) (
        optP t1p fun a1 =>
        ∃ (x1 : Int), w.cell? (a1.add (t6.toNat * 1)) = some (Value.int .u8 x1) ∧
        (chk (decide (0 ≤ t7)) (
            cond ((IntKind.u32.wrap (BitVec.ofInt IntKind.u32.bits (Int.fdiv t5 (2 ^ (min 31 IntKind.u32.bits))) ^^^ BitVec.ofInt IntKind.u32.bits (IntKind.u32.wrap (BitVec.ofInt IntKind.u32.bits (Int.fdiv (IntKind.u32.wrap x1) (2 ^ (min t7.toNat IntKind.u32.bits))) &&& BitVec.ofInt IntKind.u32.bits 1).toNat)).toNat) == 1) (
              C2 t1p t1n t1c (IntKind.u32.wrap (BitVec.ofInt IntKind.u32.bits (IntKind.u32.wrap (t5 * 2)) ^^^ BitVec.ofInt IntKind.u32.bits 79764919).toNat) t6 (IntKind.i64.wrap (t7 - 1)) w) (
              C2 t1p t1n t1c (IntKind.u32.wrap (t5 * 2)) t6 (IntKind.i64.wrap (t7 - 1)) w)))))) (
    C1 t1p t1n t1c t5 (IntKind.i64.wrap (t6 + 1)) w)
def stopcockref03_More.l2 (t1p : Option Addr) (t1n : Nat) (t1c : Nat) (t5 : Int) (t6 : Int) (t7 : Int) (w : World) (R : Ending → World → Prop) (C1 : Option Addr → Nat → Nat → Int → Int → World → Prop) : Prop :=
  ∃ (I : Option Addr → Nat → Nat → Int → Int → Int → World → Prop) (m : Option Addr → Nat → Nat → Int → Int → Int → World → Nat), I t1p t1n t1c t5 t6 t7 w ∧
  ∀ (t1p : Option Addr) (t1n : Nat) (t1c : Nat) (t5 : Int) (t6 : Int) (t7 : Int) (w : World), I t1p t1n t1c t5 t6 t7 w →
  stopcockref03_More.b2 t1p t1n t1c t5 t6 t7 w R C1 (fun t1p' t1n' t1c' t5' t6' t7' w' => I t1p' t1n' t1c' t5' t6' t7' w' ∧ m t1p' t1n' t1c' t5' t6' t7' w' < m t1p t1n t1c t5 t6 t7 w)
def stopcockref03_More.b1 (t1p : Option Addr) (t1n : Nat) (t1c : Nat) (t5 : Int) (t6 : Int) (w : World) (R : Ending → World → Prop) (C1 : Option Addr → Nat → Nat → Int → Int → World → Prop) : Prop :=
  cond (decide (t6 < ((t1n : Nat) : Int))) (
    stopcockref03_More.l2 t1p t1n t1c t5 t6 7 w R C1) (
    R (.returned (Value.int .u32 (IntKind.u32.wrap (BitVec.ofInt IntKind.u32.bits t5 ^^^ BitVec.ofInt IntKind.u32.bits 4294967295).toNat))) w)
def stopcockref03_More.l1 (t1p : Option Addr) (t1n : Nat) (t1c : Nat) (t5 : Int) (t6 : Int) (w : World) (R : Ending → World → Prop) : Prop :=
  ∃ (I : Option Addr → Nat → Nat → Int → Int → World → Prop) (m : Option Addr → Nat → Nat → Int → Int → World → Nat), I t1p t1n t1c t5 t6 w ∧
  ∀ (t1p : Option Addr) (t1n : Nat) (t1c : Nat) (t5 : Int) (t6 : Int) (w : World), I t1p t1n t1c t5 t6 w →
  stopcockref03_More.b1 t1p t1n t1c t5 t6 w R (fun t1p' t1n' t1c' t5' t6' w' => I t1p' t1n' t1c' t5' t6' w' ∧ m t1p' t1n' t1c' t5' t6' w' < m t1p t1n t1c t5 t6 w)
def stopcockref03_More.main (a0 : Int) (a1p : Option Addr) (a1n : Nat) (a1c : Nat) (w : World) (R : Ending → World → Prop) : Prop :=
  stopcockref03_More.l1 a1p a1n a1c (IntKind.u32.wrap (BitVec.ofInt IntKind.u32.bits a0 ^^^ BitVec.ofInt IntKind.u32.bits 4294967295).toNat) 0 w R
abbrev stopcockref03_More.C (a0 : Int) (a1p : Option Addr) (a1n : Nat) (a1c : Nat) (w : World) (R : Ending → World → Prop) : Prop := Calls Try.prog 13 #[(Value.int .u32 a0), (Value.slice a1p a1n a1c)] w R
noncomputable def stopcockref03_More.code : Code := (Try.f13.body).getD .skip
noncomputable def stopcockref03_More.sk (R : Ending → World → Prop) : Sk := (.seq .leaf (.seq .leaf (.seq (.seq .leaf (.block (.loop [(1, .slice), (5, .int .u32), (6, .int .i64)] (fun (t1p : Option Addr) (t1n : Nat) (t1c : Nat) (t5 : Int) (t6 : Int) (w : World) => stopcockref03_More.l1 t1p t1n t1c t5 t6 w R) (fun (C1 : Option Addr → Nat → Nat → Int → Int → World → Prop) => (.seq .leaf (.seq (.block (.seq .leaf (.block (.loop [(1, .slice), (5, .int .u32), (6, .int .i64), (7, .int .i64)] (fun (t1p : Option Addr) (t1n : Nat) (t1c : Nat) (t5 : Int) (t6 : Int) (t7 : Int) (w : World) => stopcockref03_More.l2 t1p t1n t1c t5 t6 t7 w R C1) (fun (C2 : Option Addr → Nat → Nat → Int → Int → Int → World → Prop) => .leaf))))) .leaf)))))) .leaf)))
def stopcockref03_More.owed (R : Ending → World → Prop) : Prop :=
  (∀ (t1p : Option Addr) (t1n : Nat) (t1c : Nat) (t5 : Int) (t6 : Int) (w : World), stopcockref03_More.l1 t1p t1n t1c t5 t6 w R → stopcockref03_More.l1 t1p t1n t1c t5 t6 w R) ∧ (∀ (C1 : Option Addr → Nat → Nat → Int → Int → World → Prop), (∀ (t1p : Option Addr) (t1n : Nat) (t1c : Nat) (t5 : Int) (t6 : Int) (t7 : Int) (w : World), stopcockref03_More.l2 t1p t1n t1c t5 t6 t7 w R C1 → stopcockref03_More.l2 t1p t1n t1c t5 t6 t7 w R C1) ∧ (∀ (C2 : Option Addr → Nat → Nat → Int → Int → Int → World → Prop), True) ∧ True) ∧ True
theorem stopcockref03_More.pays (R : Ending → World → Prop) : stopcockref03_More.owed R := ⟨(fun _ _ _ _ _ _ h => h), (fun _ => ⟨(fun _ _ _ _ _ _ _ h => h), (fun _ => trivial), trivial⟩), trivial⟩
set_option maxRecDepth 100000 in
theorem stopcockref03_More.ok {a0 : Int} {a1p : Option Addr} {a1n : Nat} {a1c : Nat} {w : World} {R : Ending → World → Prop} (h : stopcockref03_More.main a0 a1p a1n a1c w R) : stopcockref03_More.C a0 a1p a1n a1c w R :=
  ev_ok cxok (c := cx) Try.func13 (code := stopcockref03_More.code) (by kernel_rfl) [.tmp 4] (by kernel_rfl) 40 (by kernel_rfl) (stopcockref03_More.sk R) (args := [(Value.int .u32 a0), (Value.slice a1p a1n a1c)]) (Nat.le_of_ble_eq_true rfl) (by kernel_rfl) (o := stopcockref03_More.owed R) (by kernel_rfl) (stopcockref03_More.pays R) h

/-! ### stopcock/seal.Close: function 14 -/
def seal_Close.main (a0p : Option Addr) (a0n : Nat) (a0c : Nat) (w : World) (R : Ending → World → Prop) : Prop :=
  cond (decide (((a0n : Nat) : Int) > 60)) (
    R (.returned (Value.tuple #[(Value.slice none 0 0), (Value.int .i64 6)])) w) (
    newP w (madeCells #[(Value.int .u8 0)] (64 * 1)) 5 fun b1 w1 =>
    copyP w1 (some ⟨b1, 0, none⟩) 60 a0p a0n 1 fun w2 =>
    callP Try.prog 10 #[(Value.slice (some ⟨b1, 0, none⟩) 60 64)] w2 (fun v1 w3 =>
      dI .u32 v1 fun x1 =>
      newP w3 #[(Value.int .u8 (IntKind.u8.wrap (Int.fdiv x1 (2 ^ (min 24 IntKind.u32.bits))))), (Value.int .u8 (IntKind.u8.wrap (Int.fdiv x1 (2 ^ (min 16 IntKind.u32.bits))))), (Value.int .u8 (IntKind.u8.wrap (Int.fdiv x1 (2 ^ (min 8 IntKind.u32.bits))))), (Value.int .u8 (IntKind.u8.wrap x1))] 5 fun b2 w5 =>
      appP w5 (some ⟨b1, 0, none⟩) 60 64 4 (CellsO w5 (some ⟨b2, 0, none⟩)) 5 1 1 #[(Value.int .u8 0)] fun p1 c1 w6 =>
      R (.returned (Value.tuple #[(Value.slice p1 (60 + 4) c1), (Value.int .i64 0)])) w6) (fun ch w4 => R (.panicked ch) w4))
abbrev seal_Close.C (a0p : Option Addr) (a0n : Nat) (a0c : Nat) (w : World) (R : Ending → World → Prop) : Prop := Calls Try.prog 14 #[(Value.slice a0p a0n a0c)] w R
noncomputable def seal_Close.code : Code := (Try.f14.body).getD .skip
noncomputable def seal_Close.sk (R : Ending → World → Prop) : Sk := .leaf
def seal_Close.owed (R : Ending → World → Prop) : Prop :=
  True
theorem seal_Close.pays (R : Ending → World → Prop) : seal_Close.owed R := trivial
set_option maxRecDepth 100000 in
theorem seal_Close.ok {a0p : Option Addr} {a0n : Nat} {a0c : Nat} {w : World} {R : Ending → World → Prop} (h : seal_Close.main a0p a0n a0c w R) : seal_Close.C a0p a0n a0c w R :=
  ev_ok cxok (c := cx) Try.func14 (code := seal_Close.code) (by kernel_rfl) [.tmp 2, .tmp 3] (by kernel_rfl) 29 (by kernel_rfl) (seal_Close.sk R) (args := [(Value.slice a0p a0n a0c)]) (Nat.le_of_ble_eq_true rfl) (by kernel_rfl) (o := seal_Close.owed R) (by kernel_rfl) (seal_Close.pays R) h

/-! ### stopcock/seal.Open: function 16 -/
def seal_Open.main (a0p : Option Addr) (a0n : Nat) (a0c : Nat) (w : World) (R : Ending → World → Prop) : Prop :=
  cond (((a0n : Nat) : Int) != 64) (
    R (.returned (Value.tuple #[(Value.slice none 0 0), (Value.int .i64 6)])) w) (
    chk (decide (60 ≤ ((a0c : Nat) : Int))) (
      callP Try.prog 14 #[(Value.slice (slA a0p a0c 0 1) 60 a0c)] w (fun v1 w1 =>
        dT v1 fun vs1 =>
        optP (vs1[0]?) fun v2 =>
        dS v2 fun p1 n1 c1 =>
        optP (vs1[1]?) fun v3 =>
        dI .i64 v3 fun x1 =>
        callP Try.prog 19 #[(Value.slice p1 n1 c1), (Value.slice a0p a0n a0c)] w1 (fun v4 w3 =>
          dB v4 fun b1 =>
          cond (!b1) (
            R (.returned (Value.tuple #[(Value.slice none 0 0), (Value.int .i64 2)])) w3) (
            chk (decide (60 ≤ ((a0c : Nat) : Int))) (
              callP Try.prog 20 #[(Value.slice (slA a0p a0c 0 1) 60 a0c)] w3 (fun v5 w5 =>
                dS v5 fun p2 n2 c2 =>
                R (.returned (Value.tuple #[(Value.slice p2 n2 c2), (Value.int .i64 0)])) w5) (fun ch w6 => R (.panicked ch) w6)))) (fun ch w4 => R (.panicked ch) w4)) (fun ch w2 => R (.panicked ch) w2)))
abbrev seal_Open.C (a0p : Option Addr) (a0n : Nat) (a0c : Nat) (w : World) (R : Ending → World → Prop) : Prop := Calls Try.prog 16 #[(Value.slice a0p a0n a0c)] w R
noncomputable def seal_Open.code : Code := (Try.f16.body).getD .skip
noncomputable def seal_Open.sk (R : Ending → World → Prop) : Sk := .leaf
def seal_Open.owed (R : Ending → World → Prop) : Prop :=
  True
theorem seal_Open.pays (R : Ending → World → Prop) : seal_Open.owed R := trivial
set_option maxRecDepth 100000 in
theorem seal_Open.ok {a0p : Option Addr} {a0n : Nat} {a0c : Nat} {w : World} {R : Ending → World → Prop} (h : seal_Open.main a0p a0n a0c w R) : seal_Open.C a0p a0n a0c w R :=
  ev_ok cxok (c := cx) Try.func16 (code := seal_Open.code) (by kernel_rfl) [.tmp 2, .tmp 3] (by kernel_rfl) 22 (by kernel_rfl) (seal_Open.sk R) (args := [(Value.slice a0p a0n a0c)]) (Nat.le_of_ble_eq_true rfl) (by kernel_rfl) (o := seal_Open.owed R) (by kernel_rfl) (seal_Open.pays R) h

/-! ### stopcock/seal.step: function 18 -/
def seal_step.b1 (t0 : Int) (t4 : Int) (w : World) (R : Ending → World → Prop) (C1 : Int → Int → World → Prop) : Prop :=
  cond (decide (t4 < 8)) (
    C1 (IntKind.u32.wrap (BitVec.ofInt IntKind.u32.bits (IntKind.u32.wrap (t0 * 2 ^ (min 1 IntKind.u32.bits))) ^^^ BitVec.ofInt IntKind.u32.bits (IntKind.u32.wrap (79764919 * (Int.fdiv t0 (2 ^ (min 31 IntKind.u32.bits)))))).toNat) (IntKind.i64.wrap (t4 + 1)) w) (
    R (.returned (Value.int .u32 t0)) w)
def seal_step.l1 (t0 : Int) (t4 : Int) (w : World) (R : Ending → World → Prop) : Prop :=
  ∃ (I : Int → Int → World → Prop) (m : Int → Int → World → Nat), I t0 t4 w ∧
  ∀ (t0 : Int) (t4 : Int) (w : World), I t0 t4 w →
  seal_step.b1 t0 t4 w R (fun t0' t4' w' => I t0' t4' w' ∧ m t0' t4' w' < m t0 t4 w)
def seal_step.main (a0 : Int) (w : World) (R : Ending → World → Prop) : Prop :=
  seal_step.l1 a0 0 w R
abbrev seal_step.C (a0 : Int) (w : World) (R : Ending → World → Prop) : Prop := Calls Try.prog 18 #[(Value.int .u32 a0)] w R
noncomputable def seal_step.code : Code := (Try.f18.body).getD .skip
noncomputable def seal_step.sk (R : Ending → World → Prop) : Sk := (.seq .leaf (.seq (.seq .leaf (.block (.loop [(0, .int .u32), (4, .int .i64)] (fun (t0 : Int) (t4 : Int) (w : World) => seal_step.l1 t0 t4 w R) (fun (C1 : Int → Int → World → Prop) => .leaf)))) .leaf))
def seal_step.owed (R : Ending → World → Prop) : Prop :=
  (∀ (t0 : Int) (t4 : Int) (w : World), seal_step.l1 t0 t4 w R → seal_step.l1 t0 t4 w R) ∧ (∀ (C1 : Int → Int → World → Prop), True) ∧ True
theorem seal_step.pays (R : Ending → World → Prop) : seal_step.owed R := ⟨(fun _ _ _ h => h), (fun _ => trivial), trivial⟩
set_option maxRecDepth 100000 in
theorem seal_step.ok {a0 : Int} {w : World} {R : Ending → World → Prop} (h : seal_step.main a0 w R) : seal_step.C a0 w R :=
  ev_ok cxok (c := cx) Try.func18 (code := seal_step.code) (by kernel_rfl) [.tmp 2] (by kernel_rfl) 16 (by kernel_rfl) (seal_step.sk R) (args := [(Value.int .u32 a0)]) (Nat.le_of_ble_eq_true rfl) (by kernel_rfl) (o := seal_step.owed R) (by kernel_rfl) (seal_step.pays R) h

/-! ### bytes.Equal: function 19 -/
def bytes_Equal.main (a0p : Option Addr) (a0n : Nat) (a0c : Nat) (a1p : Option Addr) (a1n : Nat) (a1c : Nat) (w : World) (R : Ending → World → Prop) : Prop :=
  ∃ (ns1 : List Int), ns1.length = a0n ∧ CellsO w a0p (ns1.map (Value.int .u8)) ∧
  (∃ (ns2 : List Int), ns2.length = a1n ∧ CellsO w a1p (ns2.map (Value.int .u8)) ∧
    (R (.returned (Value.bool ((strOf ns1).toList == (strOf ns2).toList))) w))
abbrev bytes_Equal.C (a0p : Option Addr) (a0n : Nat) (a0c : Nat) (a1p : Option Addr) (a1n : Nat) (a1c : Nat) (w : World) (R : Ending → World → Prop) : Prop := Calls Try.prog 19 #[(Value.slice a0p a0n a0c), (Value.slice a1p a1n a1c)] w R
noncomputable def bytes_Equal.code : Code := (Try.f19.body).getD .skip
noncomputable def bytes_Equal.sk (R : Ending → World → Prop) : Sk := .leaf
def bytes_Equal.owed (R : Ending → World → Prop) : Prop :=
  True
theorem bytes_Equal.pays (R : Ending → World → Prop) : bytes_Equal.owed R := trivial
set_option maxRecDepth 100000 in
theorem bytes_Equal.ok {a0p : Option Addr} {a0n : Nat} {a0c : Nat} {a1p : Option Addr} {a1n : Nat} {a1c : Nat} {w : World} {R : Ending → World → Prop} (h : bytes_Equal.main a0p a0n a0c a1p a1n a1c w R) : bytes_Equal.C a0p a0n a0c a1p a1n a1c w R :=
  ev_ok cxok (c := cx) Try.func19 (code := bytes_Equal.code) (by kernel_rfl) [.tmp 4] (by kernel_rfl) 10 (by kernel_rfl) (bytes_Equal.sk R) (args := [(Value.slice a0p a0n a0c), (Value.slice a1p a1n a1c)]) (Nat.le_of_ble_eq_true rfl) (by kernel_rfl) (o := bytes_Equal.owed R) (by kernel_rfl) (bytes_Equal.pays R) h

/-! ### bytes.Clone: function 20 -/
def bytes_Clone.main (a0p : Option Addr) (a0n : Nat) (a0c : Nat) (w : World) (R : Ending → World → Prop) : Prop :=
  cond (Option.isNone a0p) (
    R (.returned (Value.slice none 0 0)) w) (
    newP w #[] 5 fun b1 w1 =>
    appP w1 (some ⟨b1, 0, none⟩) 0 0 a0n (CellsO w1 a0p) 5 1 1 #[(Value.int .u8 0)] fun p1 c1 w2 =>
    R (.returned (Value.slice p1 (0 + a0n) c1)) w2)
abbrev bytes_Clone.C (a0p : Option Addr) (a0n : Nat) (a0c : Nat) (w : World) (R : Ending → World → Prop) : Prop := Calls Try.prog 20 #[(Value.slice a0p a0n a0c)] w R
noncomputable def bytes_Clone.code : Code := (Try.f20.body).getD .skip
noncomputable def bytes_Clone.sk (R : Ending → World → Prop) : Sk := .leaf
def bytes_Clone.owed (R : Ending → World → Prop) : Prop :=
  True
theorem bytes_Clone.pays (R : Ending → World → Prop) : bytes_Clone.owed R := trivial
set_option maxRecDepth 100000 in
theorem bytes_Clone.ok {a0p : Option Addr} {a0n : Nat} {a0c : Nat} {w : World} {R : Ending → World → Prop} (h : bytes_Clone.main a0p a0n a0c w R) : bytes_Clone.C a0p a0n a0c w R :=
  ev_ok cxok (c := cx) Try.func20 (code := bytes_Clone.code) (by kernel_rfl) [.tmp 2] (by kernel_rfl) 8 (by kernel_rfl) (bytes_Clone.sk R) (args := [(Value.slice a0p a0n a0c)]) (Nat.le_of_ble_eq_true rfl) (by kernel_rfl) (o := bytes_Clone.owed R) (by kernel_rfl) (bytes_Clone.pays R) h

/-! ### stopcock/stopcocklaw03.SealSectors: function 4 -/
def stopcocklaw03_SealSectors.main (a0p : Option Addr) (a0n : Nat) (a0c : Nat) (a1p : Option Addr) (a1n : Nat) (a1c : Nat) (w : World) (R : Ending → World → Prop) : Prop :=
  callP Try.prog 14 #[(Value.slice a0p a0n a0c)] w (fun v1 w1 =>
    dT v1 fun vs1 =>
    optP (vs1[0]?) fun v2 =>
    dS v2 fun p1 n1 c1 =>
    optP (vs1[1]?) fun v3 =>
    dI .i64 v3 fun x1 =>
    callP Try.prog 15 #[(Value.slice a0p a0n a0c)] w1 (fun v4 w3 =>
      dT v4 fun vs2 =>
      optP (vs2[0]?) fun v5 =>
      dS v5 fun p2 n2 c2 =>
      optP (vs2[1]?) fun v6 =>
      dI .i64 v6 fun x2 =>
      callP Try.prog 16 #[(Value.slice a1p a1n a1c)] w3 (fun v7 w5 =>
        dT v7 fun vs3 =>
        optP (vs3[0]?) fun v8 =>
        dS v8 fun p3 n3 c3 =>
        optP (vs3[1]?) fun v9 =>
        dI .i64 v9 fun x3 =>
        callP Try.prog 17 #[(Value.slice a1p a1n a1c)] w5 (fun v10 w7 =>
          dT v10 fun vs4 =>
          optP (vs4[0]?) fun v11 =>
          dS v11 fun p4 n4 c4 =>
          optP (vs4[1]?) fun v12 =>
          dI .i64 v12 fun x4 =>
          callP Try.prog 9 #[] w7 (fun v13 w9 =>
            dB v13 fun b1 =>
            cond b1 (
              cond (x1 == x2) (
                ∃ (ns1 : List Int), ns1.length = n1 ∧ CellsO w9 p1 (ns1.map (Value.int .u8)) ∧
                (∃ (ns2 : List Int), ns2.length = n2 ∧ CellsO w9 p2 (ns2.map (Value.int .u8)) ∧
                  (cond ((strOf ns1).toList == (strOf ns2).toList) (
                      cond (x3 == x4) (
                        ∃ (ns3 : List Int), ns3.length = n3 ∧ CellsO w9 p3 (ns3.map (Value.int .u8)) ∧
                        (∃ (ns4 : List Int), ns4.length = n4 ∧ CellsO w9 p4 (ns4.map (Value.int .u8)) ∧
                          (R (.returned (Value.bool ((strOf ns3).toList == (strOf ns4).toList))) w9))) (
                        R (.returned (Value.bool false)) w9)) (
                      R (.returned (Value.bool false)) w9)))) (
                R (.returned (Value.bool false)) w9)) (
              R (.returned (Value.bool false)) w9)) (fun ch w10 => R (.panicked ch) w10)) (fun ch w8 => R (.panicked ch) w8)) (fun ch w6 => R (.panicked ch) w6)) (fun ch w4 => R (.panicked ch) w4)) (fun ch w2 => R (.panicked ch) w2)
abbrev stopcocklaw03_SealSectors.C (a0p : Option Addr) (a0n : Nat) (a0c : Nat) (a1p : Option Addr) (a1n : Nat) (a1c : Nat) (w : World) (R : Ending → World → Prop) : Prop := Calls Try.prog 4 #[(Value.slice a0p a0n a0c), (Value.slice a1p a1n a1c)] w R
noncomputable def stopcocklaw03_SealSectors.code : Code := (Try.f4.body).getD .skip
noncomputable def stopcocklaw03_SealSectors.sk (R : Ending → World → Prop) : Sk := .leaf
def stopcocklaw03_SealSectors.owed (R : Ending → World → Prop) : Prop :=
  True
theorem stopcocklaw03_SealSectors.pays (R : Ending → World → Prop) : stopcocklaw03_SealSectors.owed R := trivial
set_option maxRecDepth 100000 in
theorem stopcocklaw03_SealSectors.ok {a0p : Option Addr} {a0n : Nat} {a0c : Nat} {a1p : Option Addr} {a1n : Nat} {a1c : Nat} {w : World} {R : Ending → World → Prop} (h : stopcocklaw03_SealSectors.main a0p a0n a0c a1p a1n a1c w R) : stopcocklaw03_SealSectors.C a0p a0n a0c a1p a1n a1c w R :=
  ev_ok cxok (c := cx) Try.func4 (code := stopcocklaw03_SealSectors.code) (by kernel_rfl) [.tmp 4] (by kernel_rfl) 58 (by kernel_rfl) (stopcocklaw03_SealSectors.sk R) (args := [(Value.slice a0p a0n a0c), (Value.slice a1p a1n a1c)]) (Nat.le_of_ble_eq_true rfl) (by kernel_rfl) (o := stopcocklaw03_SealSectors.owed R) (by kernel_rfl) (stopcocklaw03_SealSectors.pays R) h

end Go.Proofs.Ytikclgliegfocaa.G

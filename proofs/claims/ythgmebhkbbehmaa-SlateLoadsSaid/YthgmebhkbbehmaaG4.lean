/- Statements of functions, and that their calls do what they say. Printed by wip/tool/dec.py. Conditions: none. -/
import Derived.Test.YthgmebhkbbehmaaG0
namespace Go.Proofs.Ythgmebhkbbehmaa.G
open Go.Dec
set_option linter.unusedVariables false

/-! ### stopcock/stopcockref03.More: function 65 -/
def stopcockref03_More.b2 (t1p : Option Addr) (t1n : Nat) (t1c : Nat) (t5 : Int) (t6 : Int) (t7 : Int) (w : World) (R : Ending → World → Prop) (C1 : Option Addr → Nat → Nat → Int → Int → World → Prop) (C2 : Option Addr → Nat → Nat → Int → Int → Int → World → Prop) : Prop :=
  cond (decide (t7 ≥ 0)) (
    chk (decide (0 ≤ t6)) (
      chk (decide (t6 < ((t1n : Nat) : Int))) (
        optP t1p fun d1 =>
        ∃ (x1 : Int), w.cell? (d1.add (t6.toNat * 1)) = some (Value.int .u8 x1) ∧
        (chk (decide (0 ≤ t7)) (
            cond ((IntKind.u32.wrap (BitVec.ofInt IntKind.u32.bits (Int.fdiv t5 (2 ^ (min 31 IntKind.u32.bits))) ^^^ BitVec.ofInt IntKind.u32.bits (IntKind.u32.wrap (BitVec.ofInt IntKind.u32.bits (Int.fdiv (IntKind.u32.wrap x1) (2 ^ (min t7.toNat IntKind.u32.bits))) &&& BitVec.ofInt IntKind.u32.bits 1).toNat)).toNat) == 1) (
              C2 t1p t1n t1c (IntKind.u32.wrap (BitVec.ofInt IntKind.u32.bits (IntKind.u32.wrap (t5 * 2)) ^^^ BitVec.ofInt IntKind.u32.bits 79764919).toNat) t6 (IntKind.i64.wrap (t7 - 1)) w) (
              C2 t1p t1n t1c (IntKind.u32.wrap (t5 * 2)) t6 (IntKind.i64.wrap (t7 - 1)) w)))))) (
    C1 t1p t1n t1c t5 (IntKind.i64.wrap (t6 + 1)) w)
def stopcockref03_More.l2 (t1p : Option Addr) (t1n : Nat) (t1c : Nat) (t5 : Int) (t6 : Int) (t7 : Int) (w : World) (R : Ending → World → Prop) (C1 : Option Addr → Nat → Nat → Int → Int → World → Prop) : Prop :=
  ∃ (I : Option Addr → Nat → Nat → Int → Int → Int → World → Prop) (m : Option Addr → Nat → Nat → Int → Int → Int → World → Nat), I t1p t1n t1c t5 t6 t7 w ∧
  ∀ (t1p : Option Addr) (t1n : Nat) (t1c : Nat) (t5 : Int) (t6 : Int) (t7 : Int) (w : World), I t1p t1n t1c t5 t6 t7 w →
  stopcockref03_More.b2 t1p t1n t1c t5 t6 t7 w R C1 (fun t1p' t1n' t1c' t5' t6' t7' w' => I t1p' t1n' t1c' t5' t6' t7' w' ∧ m t1p' t1n' t1c' t5' t6' t7' w' < m t1p t1n t1c t5 t6 t7 w)
def stopcockref03_More.b1 (t1p : Option Addr) (t1n : Nat) (t1c : Nat) (t5 : Int) (t6 : Int) (w : World) (R : Ending → World → Prop) (C1 : Option Addr → Nat → Nat → Int → Int → World → Prop) : Prop :=
  cond (decide (t6 < ((t1n : Nat) : Int))) (
    stopcockref03_More.l2 t1p t1n t1c t5 t6 7 w R C1) (
    R (.returned (Value.int .u32 (IntKind.u32.wrap (BitVec.ofInt IntKind.u32.bits t5 ^^^ BitVec.ofInt IntKind.u32.bits 4294967295).toNat))) w)
def stopcockref03_More.l1 (t1p : Option Addr) (t1n : Nat) (t1c : Nat) (t5 : Int) (t6 : Int) (w : World) (R : Ending → World → Prop) : Prop :=
  ∃ (I : Option Addr → Nat → Nat → Int → Int → World → Prop) (m : Option Addr → Nat → Nat → Int → Int → World → Nat), I t1p t1n t1c t5 t6 w ∧
  ∀ (t1p : Option Addr) (t1n : Nat) (t1c : Nat) (t5 : Int) (t6 : Int) (w : World), I t1p t1n t1c t5 t6 w →
  stopcockref03_More.b1 t1p t1n t1c t5 t6 w R (fun t1p' t1n' t1c' t5' t6' w' => I t1p' t1n' t1c' t5' t6' w' ∧ m t1p' t1n' t1c' t5' t6' w' < m t1p t1n t1c t5 t6 w)
def stopcockref03_More.main (a0 : Int) (a1p : Option Addr) (a1n : Nat) (a1c : Nat) (w : World) (R : Ending → World → Prop) : Prop :=
  stopcockref03_More.l1 a1p a1n a1c (IntKind.u32.wrap (BitVec.ofInt IntKind.u32.bits a0 ^^^ BitVec.ofInt IntKind.u32.bits 4294967295).toNat) 0 w R
abbrev stopcockref03_More.C (a0 : Int) (a1p : Option Addr) (a1n : Nat) (a1c : Nat) (w : World) (R : Ending → World → Prop) : Prop := Calls Try.prog 65 #[(Value.int .u32 a0), (Value.slice a1p a1n a1c)] w R
noncomputable def stopcockref03_More.code : Code := (Try.f65.body).getD .skip
noncomputable def stopcockref03_More.sk (R : Ending → World → Prop) : Sk := (.seq .leaf (.seq .leaf (.seq (.seq .leaf (.block (.loop [(1, .slice), (5, .int .u32), (6, .int .i64)] (fun (t1p : Option Addr) (t1n : Nat) (t1c : Nat) (t5 : Int) (t6 : Int) (w : World) => stopcockref03_More.l1 t1p t1n t1c t5 t6 w R) (fun (C1 : Option Addr → Nat → Nat → Int → Int → World → Prop) => (.seq .leaf (.seq (.block (.seq .leaf (.block (.loop [(1, .slice), (5, .int .u32), (6, .int .i64), (7, .int .i64)] (fun (t1p : Option Addr) (t1n : Nat) (t1c : Nat) (t5 : Int) (t6 : Int) (t7 : Int) (w : World) => stopcockref03_More.l2 t1p t1n t1c t5 t6 t7 w R C1) (fun (C2 : Option Addr → Nat → Nat → Int → Int → Int → World → Prop) => .leaf))))) .leaf)))))) .leaf)))
def stopcockref03_More.owed (R : Ending → World → Prop) : Prop :=
  (∀ (t1p : Option Addr) (t1n : Nat) (t1c : Nat) (t5 : Int) (t6 : Int) (w : World), stopcockref03_More.l1 t1p t1n t1c t5 t6 w R → stopcockref03_More.l1 t1p t1n t1c t5 t6 w R) ∧ (∀ (C1 : Option Addr → Nat → Nat → Int → Int → World → Prop), (∀ (t1p : Option Addr) (t1n : Nat) (t1c : Nat) (t5 : Int) (t6 : Int) (t7 : Int) (w : World), stopcockref03_More.l2 t1p t1n t1c t5 t6 t7 w R C1 → stopcockref03_More.l2 t1p t1n t1c t5 t6 t7 w R C1) ∧ (∀ (C2 : Option Addr → Nat → Nat → Int → Int → Int → World → Prop), True) ∧ True) ∧ True
theorem stopcockref03_More.pays (R : Ending → World → Prop) : stopcockref03_More.owed R := ⟨(fun _ _ _ _ _ _ h => h), (fun _ => ⟨(fun _ _ _ _ _ _ _ h => h), (fun _ => trivial), trivial⟩), trivial⟩
set_option maxRecDepth 100000 in
theorem stopcockref03_More.ok {a0 : Int} {a1p : Option Addr} {a1n : Nat} {a1c : Nat} {w : World} {R : Ending → World → Prop} (h : stopcockref03_More.main a0 a1p a1n a1c w R) : stopcockref03_More.C a0 a1p a1n a1c w R :=
  ev_ok cxok (c := cx) Try.func65 (code := stopcockref03_More.code) (by kernel_rfl) [.tmp 4] (by kernel_rfl) 40 (by kernel_rfl) (stopcockref03_More.sk R) (args := [(Value.int .u32 a0), (Value.slice a1p a1n a1c)]) (Nat.le_of_ble_eq_true rfl) (by kernel_rfl) (o := stopcockref03_More.owed R) (by kernel_rfl) (stopcockref03_More.pays R) h

/-! ### stopcock/owner.Within: function 66 -/
def owner_Within.b1 (t3 : Nat) (t17 : Array Value) (t18 : Int) (w : World) (R : Ending → World → Prop) (C1 : Nat → Array Value → Int → World → Prop) : Prop :=
  cond (decide (t18 < 8)) (
    chk (decide (0 ≤ t18)) (
      chk (decide (t18 < (8 : Int))) (
        optP (t17[(t18.toNat * 1)]?) fun v3 =>
        dS v3 fun p1 n1 c1 =>
        callP Try.prog 84 #[(Value.slice p1 n1 c1), (Value.func (.func 85) #[] #[(Value.pointer (some (⟨t3, 0, none⟩ : Addr)))])] w (fun v4 w7 =>
          dB v4 fun b4 =>
          cond b4 (
            R (.returned (Value.int .i64 5)) w7) (
            C1 t3 t17 (IntKind.i64.wrap (t18 + 1)) w7)) (fun ch w8 => R (.panicked ch) w8)))) (
    R (.returned (Value.int .i64 0)) w)
def owner_Within.l1 (t3 : Nat) (t17 : Array Value) (t18 : Int) (w : World) (R : Ending → World → Prop) : Prop :=
  ∃ (I : Nat → Array Value → Int → World → Prop) (m : Nat → Array Value → Int → World → Nat), I t3 t17 t18 w ∧
  ∀ (t3 : Nat) (t17 : Array Value) (t18 : Int) (w : World), I t3 t17 t18 w →
  owner_Within.b1 t3 t17 t18 w R (fun t3' t17' t18' w' => I t3' t17' t18' w' ∧ m t3' t17' t18' w' < m t3 t17 t18 w)
def owner_Within.main (a0 : Array Value) (a1_0 : Int) (a1_1 : Int) (w : World) (R : Ending → World → Prop) : Prop :=
  newP w a0 32 fun b1 w1 =>
  newP w1 #[(Value.int .i64 a1_0), (Value.int .i64 a1_1)] 34 fun b2 w2 =>
  ∃ (cs1 : Array Value), cs1.size = 2 ∧ CellsAt w2 (⟨b2, 0, none⟩ : Addr) cs1.toList ∧
  (callP Try.prog 82 #[(Value.agg cs1)] w2 (fun v1 w3 =>
      dI .i64 v1 fun x1 =>
      cond (x1 != 0) (
        R (.returned (Value.int .i64 x1)) w3) (
        ∃ (cs2 : Array Value), cs2.size = 24 ∧ CellsAt w3 (⟨b1, 0, none⟩ : Addr) cs2.toList ∧
        (callP Try.prog 83 #[(Value.agg cs2)] w3 (fun v2 w5 =>
            dB v2 fun b3 =>
            cond (!b3) (
              R (.returned (Value.int .i64 2)) w5) (
              ∃ (cs3 : Array Value), cs3.size = 8 ∧ CellsAt w5 (⟨b1, 16, none⟩ : Addr) cs3.toList ∧
              (owner_Within.l1 b2 cs3 0 w5 R))) (fun ch w6 => R (.panicked ch) w6)))) (fun ch w4 => R (.panicked ch) w4))
abbrev owner_Within.C (a0 : Array Value) (a1_0 : Int) (a1_1 : Int) (w : World) (R : Ending → World → Prop) : Prop := Calls Try.prog 66 #[(Value.agg a0), (Value.agg #[(Value.int .i64 a1_0), (Value.int .i64 a1_1)])] w R
noncomputable def owner_Within.code : Code := (Try.f66.body).getD .skip
noncomputable def owner_Within.sk (R : Ending → World → Prop) : Sk := (.seq .leaf (.seq .leaf (.seq .leaf (.seq (.seq .leaf (.block (.loop [(3, .blk), (17, .agg), (18, .int .i64)] (fun (t3 : Nat) (t17 : Array Value) (t18 : Int) (w : World) => owner_Within.l1 t3 t17 t18 w R) (fun (C1 : Nat → Array Value → Int → World → Prop) => .leaf)))) .leaf))))
def owner_Within.owed (R : Ending → World → Prop) : Prop :=
  (∀ (t3 : Nat) (t17 : Array Value) (t18 : Int) (w : World), owner_Within.l1 t3 t17 t18 w R → owner_Within.l1 t3 t17 t18 w R) ∧ (∀ (C1 : Nat → Array Value → Int → World → Prop), True) ∧ True
theorem owner_Within.pays (R : Ending → World → Prop) : owner_Within.owed R := ⟨(fun _ _ _ _ h => h), (fun _ => trivial), trivial⟩
set_option maxRecDepth 100000 in
theorem owner_Within.ok {a0 : Array Value} {a1_0 : Int} {a1_1 : Int} {w : World} {R : Ending → World → Prop} (h : owner_Within.main a0 a1_0 a1_1 w R) : owner_Within.C a0 a1_0 a1_1 w R :=
  ev_ok cxok (c := cx) Try.func66 (code := owner_Within.code) (by kernel_rfl) [.tmp 4] (by kernel_rfl) 25 (by kernel_rfl) (owner_Within.sk R) (args := [(Value.agg a0), (Value.agg #[(Value.int .i64 a1_0), (Value.int .i64 a1_1)])]) (Nat.le_of_ble_eq_true rfl) (by kernel_rfl) (o := owner_Within.owed R) (by kernel_rfl) (owner_Within.pays R) h

/-! ### stopcock/plat.Capacity: function 67 -/
def plat_Capacity.main (a0_0 : Int) (a0_1 : Int) (w : World) (R : Ending → World → Prop) : Prop :=
  newP w #[(Value.int .i64 a0_0), (Value.int .i64 a0_1)] 34 fun b1 w1 =>
  ∃ (cs1 : Array Value), cs1.size = 2 ∧ CellsAt w1 (⟨b1, 0, none⟩ : Addr) cs1.toList ∧
  (callP Try.prog 82 #[(Value.agg cs1)] w1 (fun v1 w2 =>
      dI .i64 v1 fun x1 =>
      cond (x1 != 0) (
        R (.returned (Value.tuple #[(Value.int .i64 0), (Value.int .i64 x1)])) w2) (
        ∃ (x2 : Int), w2.cell? (⟨b1, 0, none⟩ : Addr) = some (Value.int .i64 x2) ∧
        (∃ (x3 : Int), w2.cell? (⟨b1, 1, none⟩ : Addr) = some (Value.int .i64 x3) ∧
          (R (.returned (Value.tuple #[(Value.int .i64 (IntKind.i64.wrap ((IntKind.i64.wrap ((IntKind.i64.wrap (x2 - 2)) - 2)) * x3))), (Value.int .i64 0)])) w2)))) (fun ch w3 => R (.panicked ch) w3))
abbrev plat_Capacity.C (a0_0 : Int) (a0_1 : Int) (w : World) (R : Ending → World → Prop) : Prop := Calls Try.prog 67 #[(Value.agg #[(Value.int .i64 a0_0), (Value.int .i64 a0_1)])] w R
noncomputable def plat_Capacity.code : Code := (Try.f67.body).getD .skip
noncomputable def plat_Capacity.sk (R : Ending → World → Prop) : Sk := .leaf
def plat_Capacity.owed (R : Ending → World → Prop) : Prop :=
  True
theorem plat_Capacity.pays (R : Ending → World → Prop) : plat_Capacity.owed R := trivial
set_option maxRecDepth 100000 in
theorem plat_Capacity.ok {a0_0 : Int} {a0_1 : Int} {w : World} {R : Ending → World → Prop} (h : plat_Capacity.main a0_0 a0_1 w R) : plat_Capacity.C a0_0 a0_1 w R :=
  ev_ok cxok (c := cx) Try.func67 (code := plat_Capacity.code) (by kernel_rfl) [.tmp 2, .tmp 3] (by kernel_rfl) 17 (by kernel_rfl) (plat_Capacity.sk R) (args := [(Value.agg #[(Value.int .i64 a0_0), (Value.int .i64 a0_1)])]) (Nat.le_of_ble_eq_true rfl) (by kernel_rfl) (o := plat_Capacity.owed R) (by kernel_rfl) (plat_Capacity.pays R) h

/-! ### stopcock/owner.all: function 68 -/
def owner_all.b2 (t3 : Option Nat) (t4 : Int) (t10 : Array Value) (t11 : Int) (t15p : Option Addr) (t15n : Nat) (t15c : Nat) (t16 : Int) (t17 : Int) (w : World) (R : Ending → World → Prop) (C1 : Option Nat → Array Value → Int → World → Prop) (C2 : Option Nat → Int → Array Value → Int → Option Addr → Nat → Nat → Int → Int → World → Prop) : Prop :=
  cond (decide (t17 < t16)) (
    chk (decide (0 ≤ t17)) (
      chk (decide (t17 < ((t15n : Nat) : Int))) (
        optP t15p fun d1 =>
        ∃ (r1 : Nat) (m1 : Nat), w.cell? (d1.add (t17.toNat * 1)) = some (Value.complex .f64 r1 m1) ∧
        (cond (!(fCmp .eql r1 13830554455654793216 && fCmp .eql m1 0)) (
            newP w #[(Value.int .i64 t4), (Value.int .i64 t17)] 127 fun b3 w3 =>
            optP t3 fun b4 =>
            mentP Try.prog w3 b4 r1 m1 125 (.slice none 0 0) fun v2 st1 w4 =>
            dS v2 fun p2 n2 c2 =>
            appP w4 p2 n2 c2 1 (CellsO w4 (some ⟨b3, 0, none⟩)) 127 2 16 #[(Value.int .i64 0), (Value.int .i64 0)] fun p3 c3 w5 =>
            optP t3 fun b5 =>
            mstoP w5 b5 st1 (Value.slice p3 (n2 + 1) c3) fun w6 =>
            C2 t3 t4 t10 t11 t15p t15n t15c t16 (IntKind.i64.wrap (t17 + 1)) w6) (
            C2 t3 t4 t10 t11 t15p t15n t15c t16 (IntKind.i64.wrap (t17 + 1)) w))))) (
    C1 t3 t10 (IntKind.i64.wrap (t11 + 1)) w)
def owner_all.l2 (t3 : Option Nat) (t4 : Int) (t10 : Array Value) (t11 : Int) (t15p : Option Addr) (t15n : Nat) (t15c : Nat) (t16 : Int) (t17 : Int) (w : World) (R : Ending → World → Prop) (C1 : Option Nat → Array Value → Int → World → Prop) : Prop :=
  ∃ (I : Option Nat → Int → Array Value → Int → Option Addr → Nat → Nat → Int → Int → World → Prop) (m : Option Nat → Int → Array Value → Int → Option Addr → Nat → Nat → Int → Int → World → Nat), I t3 t4 t10 t11 t15p t15n t15c t16 t17 w ∧
  ∀ (t3 : Option Nat) (t4 : Int) (t10 : Array Value) (t11 : Int) (t15p : Option Addr) (t15n : Nat) (t15c : Nat) (t16 : Int) (t17 : Int) (w : World), I t3 t4 t10 t11 t15p t15n t15c t16 t17 w →
  owner_all.b2 t3 t4 t10 t11 t15p t15n t15c t16 t17 w R C1 (fun t3' t4' t10' t11' t15p' t15n' t15c' t16' t17' w' => I t3' t4' t10' t11' t15p' t15n' t15c' t16' t17' w' ∧ m t3' t4' t10' t11' t15p' t15n' t15c' t16' t17' w' < m t3 t4 t10 t11 t15p t15n t15c t16 t17 w)
def owner_all.b1 (t3 : Option Nat) (t10 : Array Value) (t11 : Int) (w : World) (R : Ending → World → Prop) (C1 : Option Nat → Array Value → Int → World → Prop) : Prop :=
  cond (decide (t11 < 8)) (
    chk (decide (0 ≤ t11)) (
      chk (decide (t11 < (8 : Int))) (
        optP (t10[(t11.toNat * 1)]?) fun v1 =>
        dS v1 fun p1 n1 c1 =>
        owner_all.l2 t3 t11 t10 t11 p1 n1 c1 ((n1 : Nat) : Int) 0 w R C1))) (
    R (.returned (Value.map t3)) w)
def owner_all.l1 (t3 : Option Nat) (t10 : Array Value) (t11 : Int) (w : World) (R : Ending → World → Prop) : Prop :=
  ∃ (I : Option Nat → Array Value → Int → World → Prop) (m : Option Nat → Array Value → Int → World → Nat), I t3 t10 t11 w ∧
  ∀ (t3 : Option Nat) (t10 : Array Value) (t11 : Int) (w : World), I t3 t10 t11 w →
  owner_all.b1 t3 t10 t11 w R (fun t3' t10' t11' w' => I t3' t10' t11' w' ∧ m t3' t10' t11' w' < m t3 t10 t11 w)
def owner_all.main (a0 : Array Value) (w : World) (R : Ending → World → Prop) : Prop :=
  newP w a0 32 fun b1 w1 =>
  newMP w1 fun b2 w2 =>
  ∃ (cs1 : Array Value), cs1.size = 8 ∧ CellsAt w2 (⟨b1, 16, none⟩ : Addr) cs1.toList ∧
  (owner_all.l1 (some b2) cs1 0 w2 R)
abbrev owner_all.C (a0 : Array Value) (w : World) (R : Ending → World → Prop) : Prop := Calls Try.prog 68 #[(Value.agg a0)] w R
noncomputable def owner_all.code : Code := (Try.f68.body).getD .skip
noncomputable def owner_all.sk (R : Ending → World → Prop) : Sk := (.seq .leaf (.seq .leaf (.seq (.seq .leaf (.block (.loop [(3, .map), (10, .agg), (11, .int .i64)] (fun (t3 : Option Nat) (t10 : Array Value) (t11 : Int) (w : World) => owner_all.l1 t3 t10 t11 w R) (fun (C1 : Option Nat → Array Value → Int → World → Prop) => (.seq .leaf (.seq .leaf (.seq (.block (.seq .leaf (.seq .leaf (.block (.loop [(3, .map), (4, .int .i64), (10, .agg), (11, .int .i64), (15, .slice), (16, .int .i64), (17, .int .i64)] (fun (t3 : Option Nat) (t4 : Int) (t10 : Array Value) (t11 : Int) (t15p : Option Addr) (t15n : Nat) (t15c : Nat) (t16 : Int) (t17 : Int) (w : World) => owner_all.l2 t3 t4 t10 t11 t15p t15n t15c t16 t17 w R C1) (fun (C2 : Option Nat → Int → Array Value → Int → Option Addr → Nat → Nat → Int → Int → World → Prop) => .leaf)))))) .leaf))))))) .leaf)))
def owner_all.owed (R : Ending → World → Prop) : Prop :=
  (∀ (t3 : Option Nat) (t10 : Array Value) (t11 : Int) (w : World), owner_all.l1 t3 t10 t11 w R → owner_all.l1 t3 t10 t11 w R) ∧ (∀ (C1 : Option Nat → Array Value → Int → World → Prop), (∀ (t3 : Option Nat) (t4 : Int) (t10 : Array Value) (t11 : Int) (t15p : Option Addr) (t15n : Nat) (t15c : Nat) (t16 : Int) (t17 : Int) (w : World), owner_all.l2 t3 t4 t10 t11 t15p t15n t15c t16 t17 w R C1 → owner_all.l2 t3 t4 t10 t11 t15p t15n t15c t16 t17 w R C1) ∧ (∀ (C2 : Option Nat → Int → Array Value → Int → Option Addr → Nat → Nat → Int → Int → World → Prop), True) ∧ True) ∧ True
theorem owner_all.pays (R : Ending → World → Prop) : owner_all.owed R := ⟨(fun _ _ _ _ h => h), (fun _ => ⟨(fun _ _ _ _ _ _ _ _ _ _ h => h), (fun _ => trivial), trivial⟩), trivial⟩
set_option maxRecDepth 100000 in
theorem owner_all.ok {a0 : Array Value} {w : World} {R : Ending → World → Prop} (h : owner_all.main a0 w R) : owner_all.C a0 w R :=
  ev_ok cxok (c := cx) Try.func68 (code := owner_all.code) (by kernel_rfl) [.tmp 2] (by kernel_rfl) 37 (by kernel_rfl) (owner_all.sk R) (args := [(Value.agg a0)]) (Nat.le_of_ble_eq_true rfl) (by kernel_rfl) (o := owner_all.owed R) (by kernel_rfl) (owner_all.pays R) h

/-! ### stopcock/axis.Flat: function 69 -/
def axis_Flat.main (a0r : Nat) (a0m : Nat) (a1 : Int) (w : World) (R : Ending → World → Prop) : Prop :=
  callP Try.prog 87 #[(Value.complex .f64 a0r a0m)] w (fun v1 w1 =>
    dT v1 fun vs1 =>
    optP (vs1[0]?) fun v2 =>
    dI .i64 v2 fun x1 =>
    optP (vs1[1]?) fun v3 =>
    dI .i64 v3 fun x2 =>
    optP (vs1[2]?) fun v4 =>
    dI .i64 v4 fun x3 =>
    callP Try.prog 76 #[(Value.int .i64 a1)] w1 (fun v5 w3 =>
      dB v5 fun b1 =>
      cond (!b1) (
        R (.returned (Value.tuple #[(Value.int .i64 0), (Value.int .i64 1)])) w3) (
        cond (x3 != 0) (
          R (.returned (Value.tuple #[(Value.int .i64 0), (Value.int .i64 x3)])) w3) (
          cond (decide (x2 ≥ a1)) (
            R (.returned (Value.tuple #[(Value.int .i64 0), (Value.int .i64 5)])) w3) (
            R (.returned (Value.tuple #[(Value.int .i64 (IntKind.i64.wrap ((IntKind.i64.wrap (x1 * a1)) + x2))), (Value.int .i64 0)])) w3)))) (fun ch w4 => R (.panicked ch) w4)) (fun ch w2 => R (.panicked ch) w2)
abbrev axis_Flat.C (a0r : Nat) (a0m : Nat) (a1 : Int) (w : World) (R : Ending → World → Prop) : Prop := Calls Try.prog 69 #[(Value.complex .f64 a0r a0m), (Value.int .i64 a1)] w R
noncomputable def axis_Flat.code : Code := (Try.f69.body).getD .skip
noncomputable def axis_Flat.sk (R : Ending → World → Prop) : Sk := .leaf
def axis_Flat.owed (R : Ending → World → Prop) : Prop :=
  True
theorem axis_Flat.pays (R : Ending → World → Prop) : axis_Flat.owed R := trivial
set_option maxRecDepth 100000 in
theorem axis_Flat.ok {a0r : Nat} {a0m : Nat} {a1 : Int} {w : World} {R : Ending → World → Prop} (h : axis_Flat.main a0r a0m a1 w R) : axis_Flat.C a0r a0m a1 w R :=
  ev_ok cxok (c := cx) Try.func69 (code := axis_Flat.code) (by kernel_rfl) [.tmp 4, .tmp 5] (by kernel_rfl) 32 (by kernel_rfl) (axis_Flat.sk R) (args := [(Value.complex .f64 a0r a0m), (Value.int .i64 a1)]) (Nat.le_of_ble_eq_true rfl) (by kernel_rfl) (o := axis_Flat.owed R) (by kernel_rfl) (axis_Flat.pays R) h

/-! ### stopcock/cell.Row: function 71 -/
def cell_Row.b1 (t0 : Int) (t4p : Option Addr) (t4n : Nat) (t4c : Nat) (t11p : Option Addr) (t11n : Nat) (t11c : Nat) (t12 : Int) (t13 : Int) (w : World) (R : Ending → World → Prop) (C1 : Int → Option Addr → Nat → Nat → Option Addr → Nat → Nat → Int → Int → World → Prop) : Prop :=
  cond (decide (t13 < t12)) (
    chk (decide (0 ≤ t13)) (
      chk (decide (t13 < ((t11n : Nat) : Int))) (
        optP t11p fun d1 =>
        ∃ (x1 : Int), w.cell? (d1.add (t13.toNat * 1)) = some (Value.int .i64 x1) ∧
        (callP Try.prog 88 #[(Value.slice t4p t4n t4c), (Value.int .i64 t0), (Value.int .i64 x1)] w (fun v2 w3 =>
            dT v2 fun vs1 =>
            optP (vs1[0]?) fun v3 =>
            dS v3 fun p1 n1 c1 =>
            optP (vs1[1]?) fun v4 =>
            dI .i64 v4 fun x2 =>
            cond (x2 != 0) (
              R (.returned (Value.tuple #[(Value.slice none 0 0), (Value.int .i64 x2)])) w3) (
              C1 t0 p1 n1 c1 t11p t11n t11c t12 (IntKind.i64.wrap (t13 + 1)) w3)) (fun ch w4 => R (.panicked ch) w4))))) (
    R (.returned (Value.tuple #[(Value.slice t4p t4n t4c), (Value.int .i64 0)])) w)
def cell_Row.l1 (t0 : Int) (t4p : Option Addr) (t4n : Nat) (t4c : Nat) (t11p : Option Addr) (t11n : Nat) (t11c : Nat) (t12 : Int) (t13 : Int) (w : World) (R : Ending → World → Prop) : Prop :=
  ∃ (I : Int → Option Addr → Nat → Nat → Option Addr → Nat → Nat → Int → Int → World → Prop) (m : Int → Option Addr → Nat → Nat → Option Addr → Nat → Nat → Int → Int → World → Nat), I t0 t4p t4n t4c t11p t11n t11c t12 t13 w ∧
  ∀ (t0 : Int) (t4p : Option Addr) (t4n : Nat) (t4c : Nat) (t11p : Option Addr) (t11n : Nat) (t11c : Nat) (t12 : Int) (t13 : Int) (w : World), I t0 t4p t4n t4c t11p t11n t11c t12 t13 w →
  cell_Row.b1 t0 t4p t4n t4c t11p t11n t11c t12 t13 w R (fun t0' t4p' t4n' t4c' t11p' t11n' t11c' t12' t13' w' => I t0' t4p' t4n' t4c' t11p' t11n' t11c' t12' t13' w' ∧ m t0' t4p' t4n' t4c' t11p' t11n' t11c' t12' t13' w' < m t0 t4p t4n t4c t11p t11n t11c t12 t13 w)
def cell_Row.main (a0 : Int) (a1p : Option Addr) (a1n : Nat) (a1c : Nat) (w : World) (R : Ending → World → Prop) : Prop :=
  callP Try.prog 74 #[(Value.int .i64 a0)] w (fun v1 w1 =>
    dB v1 fun b1 =>
    cond (!b1) (
      R (.returned (Value.tuple #[(Value.slice none 0 0), (Value.int .i64 1)])) w1) (
      cell_Row.l1 a0 none 0 0 a1p a1n a1c ((a1n : Nat) : Int) 0 w1 R)) (fun ch w2 => R (.panicked ch) w2)
abbrev cell_Row.C (a0 : Int) (a1p : Option Addr) (a1n : Nat) (a1c : Nat) (w : World) (R : Ending → World → Prop) : Prop := Calls Try.prog 71 #[(Value.int .i64 a0), (Value.slice a1p a1n a1c)] w R
noncomputable def cell_Row.code : Code := (Try.f71.body).getD .skip
noncomputable def cell_Row.sk (R : Ending → World → Prop) : Sk := (.seq .leaf (.seq .leaf (.seq (.seq .leaf (.block (.loop [(0, .int .i64), (4, .slice), (11, .slice), (12, .int .i64), (13, .int .i64)] (fun (t0 : Int) (t4p : Option Addr) (t4n : Nat) (t4c : Nat) (t11p : Option Addr) (t11n : Nat) (t11c : Nat) (t12 : Int) (t13 : Int) (w : World) => cell_Row.l1 t0 t4p t4n t4c t11p t11n t11c t12 t13 w R) (fun (C1 : Int → Option Addr → Nat → Nat → Option Addr → Nat → Nat → Int → Int → World → Prop) => .leaf)))) .leaf)))
def cell_Row.owed (R : Ending → World → Prop) : Prop :=
  (∀ (t0 : Int) (t4p : Option Addr) (t4n : Nat) (t4c : Nat) (t11p : Option Addr) (t11n : Nat) (t11c : Nat) (t12 : Int) (t13 : Int) (w : World), cell_Row.l1 t0 t4p t4n t4c t11p t11n t11c t12 t13 w R → cell_Row.l1 t0 t4p t4n t4c t11p t11n t11c t12 t13 w R) ∧ (∀ (C1 : Int → Option Addr → Nat → Nat → Option Addr → Nat → Nat → Int → Int → World → Prop), True) ∧ True
theorem cell_Row.pays (R : Ending → World → Prop) : cell_Row.owed R := ⟨(fun _ _ _ _ _ _ _ _ _ _ h => h), (fun _ => trivial), trivial⟩
set_option maxRecDepth 100000 in
theorem cell_Row.ok {a0 : Int} {a1p : Option Addr} {a1n : Nat} {a1c : Nat} {w : World} {R : Ending → World → Prop} (h : cell_Row.main a0 a1p a1n a1c w R) : cell_Row.C a0 a1p a1n a1c w R :=
  ev_ok cxok (c := cx) Try.func71 (code := cell_Row.code) (by kernel_rfl) [.tmp 4, .tmp 5] (by kernel_rfl) 29 (by kernel_rfl) (cell_Row.sk R) (args := [(Value.int .i64 a0), (Value.slice a1p a1n a1c)]) (Nat.le_of_ble_eq_true rfl) (by kernel_rfl) (o := cell_Row.owed R) (by kernel_rfl) (cell_Row.pays R) h

/-! ### stopcock/seal.More: function 72 -/
def seal_More.b1 (t5 : Int) (t10p : Option Addr) (t10n : Nat) (t10c : Nat) (t11 : Int) (t12 : Int) (w : World) (R : Ending → World → Prop) (C1 : Int → Option Addr → Nat → Nat → Int → Int → World → Prop) : Prop :=
  cond (decide (t12 < t11)) (
    chk (decide (0 ≤ t12)) (
      chk (decide (t12 < ((t10n : Nat) : Int))) (
        optP t10p fun d1 =>
        ∃ (x1 : Int), w.cell? (d1.add (t12.toNat * 1)) = some (Value.int .u8 x1) ∧
        (callP Try.prog 89 #[(Value.int .u32 (IntKind.u32.wrap (BitVec.ofInt IntKind.u32.bits t5 ^^^ BitVec.ofInt IntKind.u32.bits (IntKind.u32.wrap ((IntKind.u32.wrap x1) * 2 ^ (min 24 IntKind.u32.bits)))).toNat))] w (fun v1 w1 =>
            dI .u32 v1 fun x2 =>
            C1 x2 t10p t10n t10c t11 (IntKind.i64.wrap (t12 + 1)) w1) (fun ch w2 => R (.panicked ch) w2))))) (
    R (.returned (Value.int .u32 (IntKind.u32.wrap (BitVec.ofInt IntKind.u32.bits (if IntKind.u32.signed then -1 else IntKind.u32.max) ^^^ BitVec.ofInt IntKind.u32.bits t5).toNat))) w)
def seal_More.l1 (t5 : Int) (t10p : Option Addr) (t10n : Nat) (t10c : Nat) (t11 : Int) (t12 : Int) (w : World) (R : Ending → World → Prop) : Prop :=
  ∃ (I : Int → Option Addr → Nat → Nat → Int → Int → World → Prop) (m : Int → Option Addr → Nat → Nat → Int → Int → World → Nat), I t5 t10p t10n t10c t11 t12 w ∧
  ∀ (t5 : Int) (t10p : Option Addr) (t10n : Nat) (t10c : Nat) (t11 : Int) (t12 : Int) (w : World), I t5 t10p t10n t10c t11 t12 w →
  seal_More.b1 t5 t10p t10n t10c t11 t12 w R (fun t5' t10p' t10n' t10c' t11' t12' w' => I t5' t10p' t10n' t10c' t11' t12' w' ∧ m t5' t10p' t10n' t10c' t11' t12' w' < m t5 t10p t10n t10c t11 t12 w)
def seal_More.main (a0 : Int) (a1p : Option Addr) (a1n : Nat) (a1c : Nat) (w : World) (R : Ending → World → Prop) : Prop :=
  seal_More.l1 (IntKind.u32.wrap (BitVec.ofInt IntKind.u32.bits (if IntKind.u32.signed then -1 else IntKind.u32.max) ^^^ BitVec.ofInt IntKind.u32.bits a0).toNat) a1p a1n a1c ((a1n : Nat) : Int) 0 w R
abbrev seal_More.C (a0 : Int) (a1p : Option Addr) (a1n : Nat) (a1c : Nat) (w : World) (R : Ending → World → Prop) : Prop := Calls Try.prog 72 #[(Value.int .u32 a0), (Value.slice a1p a1n a1c)] w R
noncomputable def seal_More.code : Code := (Try.f72.body).getD .skip
noncomputable def seal_More.sk (R : Ending → World → Prop) : Sk := (.seq .leaf (.seq .leaf (.seq (.seq .leaf (.block (.loop [(5, .int .u32), (10, .slice), (11, .int .i64), (12, .int .i64)] (fun (t5 : Int) (t10p : Option Addr) (t10n : Nat) (t10c : Nat) (t11 : Int) (t12 : Int) (w : World) => seal_More.l1 t5 t10p t10n t10c t11 t12 w R) (fun (C1 : Int → Option Addr → Nat → Nat → Int → Int → World → Prop) => .leaf)))) .leaf)))
def seal_More.owed (R : Ending → World → Prop) : Prop :=
  (∀ (t5 : Int) (t10p : Option Addr) (t10n : Nat) (t10c : Nat) (t11 : Int) (t12 : Int) (w : World), seal_More.l1 t5 t10p t10n t10c t11 t12 w R → seal_More.l1 t5 t10p t10n t10c t11 t12 w R) ∧ (∀ (C1 : Int → Option Addr → Nat → Nat → Int → Int → World → Prop), True) ∧ True
theorem seal_More.pays (R : Ending → World → Prop) : seal_More.owed R := ⟨(fun _ _ _ _ _ _ _ h => h), (fun _ => trivial), trivial⟩
set_option maxRecDepth 100000 in
theorem seal_More.ok {a0 : Int} {a1p : Option Addr} {a1n : Nat} {a1c : Nat} {w : World} {R : Ending → World → Prop} (h : seal_More.main a0 a1p a1n a1c w R) : seal_More.C a0 a1p a1n a1c w R :=
  ev_ok cxok (c := cx) Try.func72 (code := seal_More.code) (by kernel_rfl) [.tmp 4] (by kernel_rfl) 25 (by kernel_rfl) (seal_More.sk R) (args := [(Value.int .u32 a0), (Value.slice a1p a1n a1c)]) (Nat.le_of_ble_eq_true rfl) (by kernel_rfl) (o := seal_More.owed R) (by kernel_rfl) (seal_More.pays R) h

/-! ### stopcock/stopcockref01.part: function 73 -/
def stopcockref01_part.b1 (t0 : Nat) (t1 : Int) (t5 : Int) (w : World) (R : Ending → World → Prop) (C1 : Nat → Int → Int → World → Prop) : Prop :=
  cond (decide (t5 < t1)) (
    cond (fCmp .eql t0 (FloatKind.f64.nearest t5)) (
      R (.returned (Value.int .i64 t5)) w) (
      C1 t0 t1 (IntKind.i64.wrap (t5 + 1)) w)) (
    R (.returned (Value.int .i64 (-1))) w)
def stopcockref01_part.l1 (t0 : Nat) (t1 : Int) (t5 : Int) (w : World) (R : Ending → World → Prop) : Prop :=
  ∃ (I : Nat → Int → Int → World → Prop) (m : Nat → Int → Int → World → Nat), I t0 t1 t5 w ∧
  ∀ (t0 : Nat) (t1 : Int) (t5 : Int) (w : World), I t0 t1 t5 w →
  stopcockref01_part.b1 t0 t1 t5 w R (fun t0' t1' t5' w' => I t0' t1' t5' w' ∧ m t0' t1' t5' w' < m t0 t1 t5 w)
def stopcockref01_part.main (a0 : Nat) (a1 : Int) (w : World) (R : Ending → World → Prop) : Prop :=
  stopcockref01_part.l1 a0 a1 0 w R
abbrev stopcockref01_part.C (a0 : Nat) (a1 : Int) (w : World) (R : Ending → World → Prop) : Prop := Calls Try.prog 73 #[(Value.float .f64 a0), (Value.int .i64 a1)] w R
noncomputable def stopcockref01_part.code : Code := (Try.f73.body).getD .skip
noncomputable def stopcockref01_part.sk (R : Ending → World → Prop) : Sk := (.seq .leaf (.seq (.seq .leaf (.block (.loop [(0, .flt), (1, .int .i64), (5, .int .i64)] (fun (t0 : Nat) (t1 : Int) (t5 : Int) (w : World) => stopcockref01_part.l1 t0 t1 t5 w R) (fun (C1 : Nat → Int → Int → World → Prop) => .leaf)))) .leaf))
def stopcockref01_part.owed (R : Ending → World → Prop) : Prop :=
  (∀ (t0 : Nat) (t1 : Int) (t5 : Int) (w : World), stopcockref01_part.l1 t0 t1 t5 w R → stopcockref01_part.l1 t0 t1 t5 w R) ∧ (∀ (C1 : Nat → Int → Int → World → Prop), True) ∧ True
theorem stopcockref01_part.pays (R : Ending → World → Prop) : stopcockref01_part.owed R := ⟨(fun _ _ _ _ h => h), (fun _ => trivial), trivial⟩
set_option maxRecDepth 100000 in
theorem stopcockref01_part.ok {a0 : Nat} {a1 : Int} {w : World} {R : Ending → World → Prop} (h : stopcockref01_part.main a0 a1 w R) : stopcockref01_part.C a0 a1 w R :=
  ev_ok cxok (c := cx) Try.func73 (code := stopcockref01_part.code) (by kernel_rfl) [.tmp 4] (by kernel_rfl) 16 (by kernel_rfl) (stopcockref01_part.sk R) (args := [(Value.float .f64 a0), (Value.int .i64 a1)]) (Nat.le_of_ble_eq_true rfl) (by kernel_rfl) (o := stopcockref01_part.owed R) (by kernel_rfl) (stopcockref01_part.pays R) h

/-! ### stopcock/cell.size: function 74 -/
def cell_size.main (a0 : Int) (w : World) (R : Ending → World → Prop) : Prop :=
  cond (decide (a0 ≥ 1)) (
    R (.returned (Value.bool (decide (a0 ≤ 4)))) w) (
    R (.returned (Value.bool false)) w)
abbrev cell_size.C (a0 : Int) (w : World) (R : Ending → World → Prop) : Prop := Calls Try.prog 74 #[(Value.int .i64 a0)] w R
noncomputable def cell_size.code : Code := (Try.f74.body).getD .skip
noncomputable def cell_size.sk (R : Ending → World → Prop) : Sk := .leaf
def cell_size.owed (R : Ending → World → Prop) : Prop :=
  True
theorem cell_size.pays (R : Ending → World → Prop) : cell_size.owed R := trivial
set_option maxRecDepth 100000 in
theorem cell_size.ok {a0 : Int} {w : World} {R : Ending → World → Prop} (h : cell_size.main a0 w R) : cell_size.C a0 w R :=
  ev_ok cxok (c := cx) Try.func74 (code := cell_size.code) (by kernel_rfl) [.tmp 2] (by kernel_rfl) 9 (by kernel_rfl) (cell_size.sk R) (args := [(Value.int .i64 a0)]) (Nat.le_of_ble_eq_true rfl) (by kernel_rfl) (o := cell_size.owed R) (by kernel_rfl) (cell_size.pays R) h

/-! ### stopcock/cell.get: function 75 -/
def cell_get.b1 (t3 : Int) (t6p : Option Addr) (t6n : Nat) (t6c : Nat) (t7 : Int) (t8 : Int) (w : World) (R : Ending → World → Prop) (C1 : Int → Option Addr → Nat → Nat → Int → Int → World → Prop) : Prop :=
  cond (decide (t8 < t7)) (
    chk (decide (0 ≤ t8)) (
      chk (decide (t8 < ((t6n : Nat) : Int))) (
        optP t6p fun d1 =>
        ∃ (x1 : Int), w.cell? (d1.add (t8.toNat * 1)) = some (Value.int .u8 x1) ∧
        (C1 (IntKind.i64.wrap (BitVec.ofInt IntKind.i64.bits (IntKind.i64.wrap (t3 * 2 ^ (min 8 IntKind.i64.bits))) ||| BitVec.ofInt IntKind.i64.bits (IntKind.i64.wrap x1)).toNat) t6p t6n t6c t7 (IntKind.i64.wrap (t8 + 1)) w)))) (
    R (.returned (Value.int .i64 t3)) w)
def cell_get.l1 (t3 : Int) (t6p : Option Addr) (t6n : Nat) (t6c : Nat) (t7 : Int) (t8 : Int) (w : World) (R : Ending → World → Prop) : Prop :=
  ∃ (I : Int → Option Addr → Nat → Nat → Int → Int → World → Prop) (m : Int → Option Addr → Nat → Nat → Int → Int → World → Nat), I t3 t6p t6n t6c t7 t8 w ∧
  ∀ (t3 : Int) (t6p : Option Addr) (t6n : Nat) (t6c : Nat) (t7 : Int) (t8 : Int) (w : World), I t3 t6p t6n t6c t7 t8 w →
  cell_get.b1 t3 t6p t6n t6c t7 t8 w R (fun t3' t6p' t6n' t6c' t7' t8' w' => I t3' t6p' t6n' t6c' t7' t8' w' ∧ m t3' t6p' t6n' t6c' t7' t8' w' < m t3 t6p t6n t6c t7 t8 w)
def cell_get.main (a0p : Option Addr) (a0n : Nat) (a0c : Nat) (w : World) (R : Ending → World → Prop) : Prop :=
  cell_get.l1 0 a0p a0n a0c ((a0n : Nat) : Int) 0 w R
abbrev cell_get.C (a0p : Option Addr) (a0n : Nat) (a0c : Nat) (w : World) (R : Ending → World → Prop) : Prop := Calls Try.prog 75 #[(Value.slice a0p a0n a0c)] w R
noncomputable def cell_get.code : Code := (Try.f75.body).getD .skip
noncomputable def cell_get.sk (R : Ending → World → Prop) : Sk := (.seq .leaf (.seq .leaf (.seq (.seq .leaf (.block (.loop [(3, .int .i64), (6, .slice), (7, .int .i64), (8, .int .i64)] (fun (t3 : Int) (t6p : Option Addr) (t6n : Nat) (t6c : Nat) (t7 : Int) (t8 : Int) (w : World) => cell_get.l1 t3 t6p t6n t6c t7 t8 w R) (fun (C1 : Int → Option Addr → Nat → Nat → Int → Int → World → Prop) => .leaf)))) .leaf)))
def cell_get.owed (R : Ending → World → Prop) : Prop :=
  (∀ (t3 : Int) (t6p : Option Addr) (t6n : Nat) (t6c : Nat) (t7 : Int) (t8 : Int) (w : World), cell_get.l1 t3 t6p t6n t6c t7 t8 w R → cell_get.l1 t3 t6p t6n t6c t7 t8 w R) ∧ (∀ (C1 : Int → Option Addr → Nat → Nat → Int → Int → World → Prop), True) ∧ True
theorem cell_get.pays (R : Ending → World → Prop) : cell_get.owed R := ⟨(fun _ _ _ _ _ _ _ h => h), (fun _ => trivial), trivial⟩
set_option maxRecDepth 100000 in
theorem cell_get.ok {a0p : Option Addr} {a0n : Nat} {a0c : Nat} {w : World} {R : Ending → World → Prop} (h : cell_get.main a0p a0n a0c w R) : cell_get.C a0p a0n a0c w R :=
  ev_ok cxok (c := cx) Try.func75 (code := cell_get.code) (by kernel_rfl) [.tmp 2] (by kernel_rfl) 19 (by kernel_rfl) (cell_get.sk R) (args := [(Value.slice a0p a0n a0c)]) (Nat.le_of_ble_eq_true rfl) (by kernel_rfl) (o := cell_get.owed R) (by kernel_rfl) (cell_get.pays R) h

/-! ### stopcock/axis.width: function 76 -/
def axis_width.main (a0 : Int) (w : World) (R : Ending → World → Prop) : Prop :=
  cond (decide (a0 ≥ 1)) (
    R (.returned (Value.bool (decide (a0 ≤ 16)))) w) (
    R (.returned (Value.bool false)) w)
abbrev axis_width.C (a0 : Int) (w : World) (R : Ending → World → Prop) : Prop := Calls Try.prog 76 #[(Value.int .i64 a0)] w R
noncomputable def axis_width.code : Code := (Try.f76.body).getD .skip
noncomputable def axis_width.sk (R : Ending → World → Prop) : Sk := .leaf
def axis_width.owed (R : Ending → World → Prop) : Prop :=
  True
theorem axis_width.pays (R : Ending → World → Prop) : axis_width.owed R := trivial
set_option maxRecDepth 100000 in
theorem axis_width.ok {a0 : Int} {w : World} {R : Ending → World → Prop} (h : axis_width.main a0 w R) : axis_width.C a0 w R :=
  ev_ok cxok (c := cx) Try.func76 (code := axis_width.code) (by kernel_rfl) [.tmp 2] (by kernel_rfl) 9 (by kernel_rfl) (axis_width.sk R) (args := [(Value.int .i64 a0)]) (Nat.le_of_ble_eq_true rfl) (by kernel_rfl) (o := axis_width.owed R) (by kernel_rfl) (axis_width.pays R) h

/-! ### stopcock/stopcockref06.May: function 77 -/
def stopcockref06_May.main (a0_0 : Int) (a0_1 : Int) (w : World) (R : Ending → World → Prop) : Prop :=
  newP w #[(Value.int .i64 a0_0), (Value.int .i64 a0_1)] 34 fun b1 w1 =>
  ∃ (x1 : Int), w1.cell? (⟨b1, 0, none⟩ : Addr) = some (Value.int .i64 x1) ∧
  (cond (decide (x1 ≥ 6)) (
      ∃ (x2 : Int), w1.cell? (⟨b1, 0, none⟩ : Addr) = some (Value.int .i64 x2) ∧
      (cond (decide (x2 ≤ 24)) (
          ∃ (x3 : Int), w1.cell? (⟨b1, 1, none⟩ : Addr) = some (Value.int .i64 x3) ∧
          (cond (decide (x3 ≥ 2)) (
              ∃ (x4 : Int), w1.cell? (⟨b1, 1, none⟩ : Addr) = some (Value.int .i64 x4) ∧
              (R (.returned (Value.bool (decide (x4 ≤ 16)))) w1)) (
              R (.returned (Value.bool false)) w1))) (
          R (.returned (Value.bool false)) w1))) (
      R (.returned (Value.bool false)) w1))
abbrev stopcockref06_May.C (a0_0 : Int) (a0_1 : Int) (w : World) (R : Ending → World → Prop) : Prop := Calls Try.prog 77 #[(Value.agg #[(Value.int .i64 a0_0), (Value.int .i64 a0_1)])] w R
noncomputable def stopcockref06_May.code : Code := (Try.f77.body).getD .skip
noncomputable def stopcockref06_May.sk (R : Ending → World → Prop) : Sk := .leaf
def stopcockref06_May.owed (R : Ending → World → Prop) : Prop :=
  True
theorem stopcockref06_May.pays (R : Ending → World → Prop) : stopcockref06_May.owed R := trivial
set_option maxRecDepth 100000 in
theorem stopcockref06_May.ok {a0_0 : Int} {a0_1 : Int} {w : World} {R : Ending → World → Prop} (h : stopcockref06_May.main a0_0 a0_1 w R) : stopcockref06_May.C a0_0 a0_1 w R :=
  ev_ok cxok (c := cx) Try.func77 (code := stopcockref06_May.code) (by kernel_rfl) [.tmp 2] (by kernel_rfl) 21 (by kernel_rfl) (stopcockref06_May.sk R) (args := [(Value.agg #[(Value.int .i64 a0_0), (Value.int .i64 a0_1)])]) (Nat.le_of_ble_eq_true rfl) (by kernel_rfl) (o := stopcockref06_May.owed R) (by kernel_rfl) (stopcockref06_May.pays R) h

/-! ### stopcock/stopcockref10.all: function 78 -/
def stopcockref10_all.b2 (t1 : Nat) (t3p : Option Addr) (t3n : Nat) (t3c : Nat) (t4 : Int) (t5 : Int) (w : World) (R : Ending → World → Prop) (C1 : Nat → Option Addr → Nat → Nat → Int → World → Prop) (C2 : Nat → Option Addr → Nat → Nat → Int → Int → World → Prop) : Prop :=
  chk (decide (0 ≤ t4)) (
    chk (decide (t4 < (8 : Int))) (
      ∃ (p1 : Option Addr) (n1 : Nat) (c1 : Nat), w.cell? ((⟨t1, 16, none⟩ : Addr).add (t4.toNat * 1)) = some (Value.slice p1 n1 c1) ∧
      (cond (decide (t5 < ((n1 : Nat) : Int))) (
          chk (decide (0 ≤ t4)) (
            chk (decide (t4 < (8 : Int))) (
              ∃ (p2 : Option Addr) (n2 : Nat) (c2 : Nat), w.cell? ((⟨t1, 16, none⟩ : Addr).add (t4.toNat * 1)) = some (Value.slice p2 n2 c2) ∧
              (chk (decide (0 ≤ t5)) (
                  chk (decide (t5 < ((n2 : Nat) : Int))) (
                    optP p2 fun d1 =>
                    ∃ (r1 : Nat) (m1 : Nat), w.cell? (d1.add (t5.toNat * 1)) = some (Value.complex .f64 r1 m1) ∧
                    (cond (!(fCmp .eql r1 13830554455654793216 && fCmp .eql m1 0)) (
                        chk (decide (0 ≤ t4)) (
                          chk (decide (t4 < (8 : Int))) (
                          ∃ (p3 : Option Addr) (n3 : Nat) (c3 : Nat), w.cell? ((⟨t1, 16, none⟩ : Addr).add (t4.toNat * 1)) = some (Value.slice p3 n3 c3) ∧
                          (chk (decide (0 ≤ t5)) (
                          chk (decide (t5 < ((n3 : Nat) : Int))) (
                          optP p3 fun d2 =>
                          ∃ (r2 : Nat) (m2 : Nat), w.cell? (d2.add (t5.toNat * 1)) = some (Value.complex .f64 r2 m2) ∧
                          (newP w #[(Value.complex .f64 r2 m2)] 56 fun b3 w3 =>
                          appP w3 t3p t3n t3c 1 (CellsO w3 (some ⟨b3, 0, none⟩)) 56 1 16 #[(Value.complex .f64 0 0)] fun p4 c4 w4 =>
                          C2 t1 p4 (t3n + 1) c4 t4 (IntKind.i64.wrap (t5 + 1)) w4))))))) (
                        C2 t1 t3p t3n t3c t4 (IntKind.i64.wrap (t5 + 1)) w)))))))) (
          C1 t1 t3p t3n t3c (IntKind.i64.wrap (t4 + 1)) w))))
def stopcockref10_all.l2 (t1 : Nat) (t3p : Option Addr) (t3n : Nat) (t3c : Nat) (t4 : Int) (t5 : Int) (w : World) (R : Ending → World → Prop) (C1 : Nat → Option Addr → Nat → Nat → Int → World → Prop) : Prop :=
  ∃ (I : Nat → Option Addr → Nat → Nat → Int → Int → World → Prop) (m : Nat → Option Addr → Nat → Nat → Int → Int → World → Nat), I t1 t3p t3n t3c t4 t5 w ∧
  ∀ (t1 : Nat) (t3p : Option Addr) (t3n : Nat) (t3c : Nat) (t4 : Int) (t5 : Int) (w : World), I t1 t3p t3n t3c t4 t5 w →
  stopcockref10_all.b2 t1 t3p t3n t3c t4 t5 w R C1 (fun t1' t3p' t3n' t3c' t4' t5' w' => I t1' t3p' t3n' t3c' t4' t5' w' ∧ m t1' t3p' t3n' t3c' t4' t5' w' < m t1 t3p t3n t3c t4 t5 w)
def stopcockref10_all.b1 (t1 : Nat) (t3p : Option Addr) (t3n : Nat) (t3c : Nat) (t4 : Int) (w : World) (R : Ending → World → Prop) (C1 : Nat → Option Addr → Nat → Nat → Int → World → Prop) : Prop :=
  cond (decide (t4 < 8)) (
    stopcockref10_all.l2 t1 t3p t3n t3c t4 0 w R C1) (
    R (.returned (Value.slice t3p t3n t3c)) w)
def stopcockref10_all.l1 (t1 : Nat) (t3p : Option Addr) (t3n : Nat) (t3c : Nat) (t4 : Int) (w : World) (R : Ending → World → Prop) : Prop :=
  ∃ (I : Nat → Option Addr → Nat → Nat → Int → World → Prop) (m : Nat → Option Addr → Nat → Nat → Int → World → Nat), I t1 t3p t3n t3c t4 w ∧
  ∀ (t1 : Nat) (t3p : Option Addr) (t3n : Nat) (t3c : Nat) (t4 : Int) (w : World), I t1 t3p t3n t3c t4 w →
  stopcockref10_all.b1 t1 t3p t3n t3c t4 w R (fun t1' t3p' t3n' t3c' t4' w' => I t1' t3p' t3n' t3c' t4' w' ∧ m t1' t3p' t3n' t3c' t4' w' < m t1 t3p t3n t3c t4 w)
def stopcockref10_all.main (a0 : Array Value) (w : World) (R : Ending → World → Prop) : Prop :=
  newP w a0 32 fun b1 w1 =>
  newP w1 #[] 56 fun b2 w2 =>
  stopcockref10_all.l1 b1 (some ⟨b2, 0, none⟩) 0 0 0 w2 R
abbrev stopcockref10_all.C (a0 : Array Value) (w : World) (R : Ending → World → Prop) : Prop := Calls Try.prog 78 #[(Value.agg a0)] w R
noncomputable def stopcockref10_all.code : Code := (Try.f78.body).getD .skip
noncomputable def stopcockref10_all.sk (R : Ending → World → Prop) : Sk := (.seq .leaf (.seq .leaf (.seq (.seq .leaf (.block (.loop [(1, .blk), (3, .slice), (4, .int .i64)] (fun (t1 : Nat) (t3p : Option Addr) (t3n : Nat) (t3c : Nat) (t4 : Int) (w : World) => stopcockref10_all.l1 t1 t3p t3n t3c t4 w R) (fun (C1 : Nat → Option Addr → Nat → Nat → Int → World → Prop) => (.seq .leaf (.seq (.block (.seq .leaf (.block (.loop [(1, .blk), (3, .slice), (4, .int .i64), (5, .int .i64)] (fun (t1 : Nat) (t3p : Option Addr) (t3n : Nat) (t3c : Nat) (t4 : Int) (t5 : Int) (w : World) => stopcockref10_all.l2 t1 t3p t3n t3c t4 t5 w R C1) (fun (C2 : Nat → Option Addr → Nat → Nat → Int → Int → World → Prop) => .leaf))))) .leaf)))))) .leaf)))
def stopcockref10_all.owed (R : Ending → World → Prop) : Prop :=
  (∀ (t1 : Nat) (t3p : Option Addr) (t3n : Nat) (t3c : Nat) (t4 : Int) (w : World), stopcockref10_all.l1 t1 t3p t3n t3c t4 w R → stopcockref10_all.l1 t1 t3p t3n t3c t4 w R) ∧ (∀ (C1 : Nat → Option Addr → Nat → Nat → Int → World → Prop), (∀ (t1 : Nat) (t3p : Option Addr) (t3n : Nat) (t3c : Nat) (t4 : Int) (t5 : Int) (w : World), stopcockref10_all.l2 t1 t3p t3n t3c t4 t5 w R C1 → stopcockref10_all.l2 t1 t3p t3n t3c t4 t5 w R C1) ∧ (∀ (C2 : Nat → Option Addr → Nat → Nat → Int → Int → World → Prop), True) ∧ True) ∧ True
theorem stopcockref10_all.pays (R : Ending → World → Prop) : stopcockref10_all.owed R := ⟨(fun _ _ _ _ _ _ h => h), (fun _ => ⟨(fun _ _ _ _ _ _ _ h => h), (fun _ => trivial), trivial⟩), trivial⟩
set_option maxRecDepth 100000 in
theorem stopcockref10_all.ok {a0 : Array Value} {w : World} {R : Ending → World → Prop} (h : stopcockref10_all.main a0 w R) : stopcockref10_all.C a0 w R :=
  ev_ok cxok (c := cx) Try.func78 (code := stopcockref10_all.code) (by kernel_rfl) [.tmp 2] (by kernel_rfl) 39 (by kernel_rfl) (stopcockref10_all.sk R) (args := [(Value.agg a0)]) (Nat.le_of_ble_eq_true rfl) (by kernel_rfl) (o := stopcockref10_all.owed R) (by kernel_rfl) (stopcockref10_all.pays R) h

/-! ### stopcock/stopcockref06.At: function 79 -/
def stopcockref06_At.main (a0_0 : Int) (a0_1 : Int) (a1r : Nat) (a1m : Nat) (w : World) (R : Ending → World → Prop) : Prop :=
  newP w #[(Value.int .i64 a0_0), (Value.int .i64 a0_1)] 34 fun b1 w1 =>
  ∃ (cs1 : Array Value), cs1.size = 2 ∧ CellsAt w1 (⟨b1, 0, none⟩ : Addr) cs1.toList ∧
  (callP Try.prog 77 #[(Value.agg cs1)] w1 (fun v1 w2 =>
      dB v1 fun b2 =>
      cond (!b2) (
        R (.returned (Value.tuple #[(Value.int .i64 0), (Value.int .i64 1)])) w2) (
        ∃ (x1 : Int), w2.cell? (⟨b1, 1, none⟩ : Addr) = some (Value.int .i64 x1) ∧
        (callP Try.prog 44 #[(Value.complex .f64 a1r a1m), (Value.int .i64 x1)] w2 (fun v2 w4 =>
            dT v2 fun vs1 =>
            optP (vs1[0]?) fun v3 =>
            dI .i64 v3 fun x2 =>
            optP (vs1[1]?) fun v4 =>
            dI .i64 v4 fun x3 =>
            cond (x3 != 0) (
              R (.returned (Value.tuple #[(Value.int .i64 0), (Value.int .i64 x3)])) w4) (
              ∃ (x4 : Int), w4.cell? (⟨b1, 0, none⟩ : Addr) = some (Value.int .i64 x4) ∧
              (∃ (x5 : Int), w4.cell? (⟨b1, 1, none⟩ : Addr) = some (Value.int .i64 x5) ∧
                (cond (decide (x2 ≥ (IntKind.i64.wrap (x4 * x5)))) (
                    R (.returned (Value.tuple #[(Value.int .i64 0), (Value.int .i64 5)])) w4) (
                    R (.returned (Value.tuple #[(Value.int .i64 (IntKind.i64.wrap (40 + x2))), (Value.int .i64 0)])) w4))))) (fun ch w5 => R (.panicked ch) w5)))) (fun ch w3 => R (.panicked ch) w3))
abbrev stopcockref06_At.C (a0_0 : Int) (a0_1 : Int) (a1r : Nat) (a1m : Nat) (w : World) (R : Ending → World → Prop) : Prop := Calls Try.prog 79 #[(Value.agg #[(Value.int .i64 a0_0), (Value.int .i64 a0_1)]), (Value.complex .f64 a1r a1m)] w R
noncomputable def stopcockref06_At.code : Code := (Try.f79.body).getD .skip
noncomputable def stopcockref06_At.sk (R : Ending → World → Prop) : Sk := .leaf
def stopcockref06_At.owed (R : Ending → World → Prop) : Prop :=
  True
theorem stopcockref06_At.pays (R : Ending → World → Prop) : stopcockref06_At.owed R := trivial
set_option maxRecDepth 100000 in
theorem stopcockref06_At.ok {a0_0 : Int} {a0_1 : Int} {a1r : Nat} {a1m : Nat} {w : World} {R : Ending → World → Prop} (h : stopcockref06_At.main a0_0 a0_1 a1r a1m w R) : stopcockref06_At.C a0_0 a0_1 a1r a1m w R :=
  ev_ok cxok (c := cx) Try.func79 (code := stopcockref06_At.code) (by kernel_rfl) [.tmp 4, .tmp 5] (by kernel_rfl) 30 (by kernel_rfl) (stopcockref06_At.sk R) (args := [(Value.agg #[(Value.int .i64 a0_0), (Value.int .i64 a0_1)]), (Value.complex .f64 a1r a1m)]) (Nat.le_of_ble_eq_true rfl) (by kernel_rfl) (o := stopcockref06_At.owed R) (by kernel_rfl) (stopcockref06_At.pays R) h

/-! ### stopcock/stopcockref01.Sort: function 80 -/
def stopcockref01_Sort.b2 (t4p : Option Addr) (t4n : Nat) (t4c : Nat) (t8p : Option Addr) (t8n : Nat) (t8c : Nat) (t9 : Int) (w : World) (R : Ending → World → Prop) (C2 : Option Addr → Nat → Nat → Option Addr → Nat → Nat → Int → World → Prop) : Prop :=
  cond (decide (t9 < ((t4n : Nat) : Int))) (
    chk (decide (0 ≤ t9)) (
      chk (decide (t9 < ((t4n : Nat) : Int))) (
        optP t4p fun d3 =>
        ∃ (b3 : Bool), w.cell? (d3.add (t9.toNat * 1)) = some (Value.bool b3) ∧
        (cond b3 (
            callP Try.prog 41 #[(Value.int .i64 (IntKind.i64.wrap (Int.tdiv t9 16))), (Value.int .i64 (Int.tmod t9 16))] w (fun v4 w6 =>
              dC v4 fun r2 m2 =>
              newP w6 #[(Value.complex .f64 r2 m2)] 56 fun b4 w8 =>
              appP w8 t8p t8n t8c 1 (CellsO w8 (some ⟨b4, 0, none⟩)) 56 1 16 #[(Value.complex .f64 0 0)] fun p1 c1 w9 =>
              C2 t4p t4n t4c p1 (t8n + 1) c1 (IntKind.i64.wrap (t9 + 1)) w9) (fun ch w7 => R (.panicked ch) w7)) (
            C2 t4p t4n t4c t8p t8n t8c (IntKind.i64.wrap (t9 + 1)) w))))) (
    R (.returned (Value.tuple #[(Value.slice t8p t8n t8c), (Value.int .i64 0)])) w)
def stopcockref01_Sort.l2 (t4p : Option Addr) (t4n : Nat) (t4c : Nat) (t8p : Option Addr) (t8n : Nat) (t8c : Nat) (t9 : Int) (w : World) (R : Ending → World → Prop) : Prop :=
  ∃ (I : Option Addr → Nat → Nat → Option Addr → Nat → Nat → Int → World → Prop) (m : Option Addr → Nat → Nat → Option Addr → Nat → Nat → Int → World → Nat), I t4p t4n t4c t8p t8n t8c t9 w ∧
  ∀ (t4p : Option Addr) (t4n : Nat) (t4c : Nat) (t8p : Option Addr) (t8n : Nat) (t8c : Nat) (t9 : Int) (w : World), I t4p t4n t4c t8p t8n t8c t9 w →
  stopcockref01_Sort.b2 t4p t4n t4c t8p t8n t8c t9 w R (fun t4p' t4n' t4c' t8p' t8n' t8c' t9' w' => I t4p' t4n' t4c' t8p' t8n' t8c' t9' w' ∧ m t4p' t4n' t4c' t8p' t8n' t8c' t9' w' < m t4p t4n t4c t8p t8n t8c t9 w)
def stopcockref01_Sort.k1 (t4p : Option Addr) (t4n : Nat) (t4c : Nat) (w : World) (R : Ending → World → Prop) : Prop :=
  newP w #[] 56 fun b2 w5 =>
  stopcockref01_Sort.l2 t4p t4n t4c (some ⟨b2, 0, none⟩) 0 0 0 w5 R
def stopcockref01_Sort.b1 (t0p : Option Addr) (t0n : Nat) (t0c : Nat) (t4p : Option Addr) (t4n : Nat) (t4c : Nat) (t5 : Int) (w : World) (R : Ending → World → Prop) (C1 : Option Addr → Nat → Nat → Option Addr → Nat → Nat → Int → World → Prop) : Prop :=
  cond (decide (t5 < ((t0n : Nat) : Int))) (
    chk (decide (0 ≤ t5)) (
      chk (decide (t5 < ((t0n : Nat) : Int))) (
        optP t0p fun d1 =>
        ∃ (r1 : Nat) (m1 : Nat), w.cell? (d1.add (t5.toNat * 1)) = some (Value.complex .f64 r1 m1) ∧
        (callP Try.prog 44 #[(Value.complex .f64 r1 m1), (Value.int .i64 16)] w (fun v1 w2 =>
            dT v1 fun vs1 =>
            optP (vs1[0]?) fun v2 =>
            dI .i64 v2 fun x1 =>
            optP (vs1[1]?) fun v3 =>
            dI .i64 v3 fun x2 =>
            cond (x2 != 0) (
              R (.returned (Value.tuple #[(Value.slice none 0 0), (Value.int .i64 2)])) w2) (
              chk (decide (0 ≤ x1)) (
                chk (decide (x1 < ((t4n : Nat) : Int))) (
                  optP t4p fun d2 =>
                  (w2.cell? (d2.add (x1.toNat * 1))).isSome = true ∧ w2.frozen? (d2.add (x1.toNat * 1)) = false ∧ ∀ w4, w4 = w2.setCell (d2.add (x1.toNat * 1)) (Value.bool true) →
                  (C1 t0p t0n t0c t4p t4n t4c (IntKind.i64.wrap (t5 + 1)) w4))))) (fun ch w3 => R (.panicked ch) w3))))) (
    stopcockref01_Sort.k1 t4p t4n t4c w R)
def stopcockref01_Sort.l1 (t0p : Option Addr) (t0n : Nat) (t0c : Nat) (t4p : Option Addr) (t4n : Nat) (t4c : Nat) (t5 : Int) (w : World) (R : Ending → World → Prop) : Prop :=
  ∃ (I : Option Addr → Nat → Nat → Option Addr → Nat → Nat → Int → World → Prop) (m : Option Addr → Nat → Nat → Option Addr → Nat → Nat → Int → World → Nat), I t0p t0n t0c t4p t4n t4c t5 w ∧
  ∀ (t0p : Option Addr) (t0n : Nat) (t0c : Nat) (t4p : Option Addr) (t4n : Nat) (t4c : Nat) (t5 : Int) (w : World), I t0p t0n t0c t4p t4n t4c t5 w →
  stopcockref01_Sort.b1 t0p t0n t0c t4p t4n t4c t5 w R (fun t0p' t0n' t0c' t4p' t4n' t4c' t5' w' => I t0p' t0n' t0c' t4p' t4n' t4c' t5' w' ∧ m t0p' t0n' t0c' t4p' t4n' t4c' t5' w' < m t0p t0n t0c t4p t4n t4c t5 w)
def stopcockref01_Sort.main (a0p : Option Addr) (a0n : Nat) (a0c : Nat) (w : World) (R : Ending → World → Prop) : Prop :=
  cond (decide (((a0n : Nat) : Int) > 4096)) (
    R (.returned (Value.tuple #[(Value.slice none 0 0), (Value.int .i64 1)])) w) (
    newP w (madeCells #[(Value.bool false)] (384 * 1)) 4 fun b1 w1 =>
    stopcockref01_Sort.l1 a0p a0n a0c (some ⟨b1, 0, none⟩) 384 384 0 w1 R)
abbrev stopcockref01_Sort.C (a0p : Option Addr) (a0n : Nat) (a0c : Nat) (w : World) (R : Ending → World → Prop) : Prop := Calls Try.prog 80 #[(Value.slice a0p a0n a0c)] w R
noncomputable def stopcockref01_Sort.code : Code := (Try.f80.body).getD .skip
noncomputable def stopcockref01_Sort.sk (R : Ending → World → Prop) : Sk := (.seq .leaf (.seq .leaf (.seq .leaf (.cut [(4, .slice)] (fun (t4p : Option Addr) (t4n : Nat) (t4c : Nat) (w : World) => stopcockref01_Sort.k1 t4p t4n t4c w R) (.seq .leaf (.block (.loop [(0, .slice), (4, .slice), (5, .int .i64)] (fun (t0p : Option Addr) (t0n : Nat) (t0c : Nat) (t4p : Option Addr) (t4n : Nat) (t4c : Nat) (t5 : Int) (w : World) => stopcockref01_Sort.l1 t0p t0n t0c t4p t4n t4c t5 w R) (fun (C1 : Option Addr → Nat → Nat → Option Addr → Nat → Nat → Int → World → Prop) => .leaf)))) (.seq .leaf (.seq (.seq .leaf (.block (.loop [(4, .slice), (8, .slice), (9, .int .i64)] (fun (t4p : Option Addr) (t4n : Nat) (t4c : Nat) (t8p : Option Addr) (t8n : Nat) (t8c : Nat) (t9 : Int) (w : World) => stopcockref01_Sort.l2 t4p t4n t4c t8p t8n t8c t9 w R) (fun (C2 : Option Addr → Nat → Nat → Option Addr → Nat → Nat → Int → World → Prop) => .leaf)))) .leaf))))))
def stopcockref01_Sort.owed (R : Ending → World → Prop) : Prop :=
  (∀ (t0p : Option Addr) (t0n : Nat) (t0c : Nat) (t4p : Option Addr) (t4n : Nat) (t4c : Nat) (t5 : Int) (w : World), stopcockref01_Sort.l1 t0p t0n t0c t4p t4n t4c t5 w R → stopcockref01_Sort.l1 t0p t0n t0c t4p t4n t4c t5 w R) ∧ (∀ (C1 : Option Addr → Nat → Nat → Option Addr → Nat → Nat → Int → World → Prop), True) ∧ (∀ (t4p : Option Addr) (t4n : Nat) (t4c : Nat) (w : World), stopcockref01_Sort.k1 t4p t4n t4c w R → stopcockref01_Sort.k1 t4p t4n t4c w R) ∧ (∀ (t4p : Option Addr) (t4n : Nat) (t4c : Nat) (t8p : Option Addr) (t8n : Nat) (t8c : Nat) (t9 : Int) (w : World), stopcockref01_Sort.l2 t4p t4n t4c t8p t8n t8c t9 w R → stopcockref01_Sort.l2 t4p t4n t4c t8p t8n t8c t9 w R) ∧ (∀ (C2 : Option Addr → Nat → Nat → Option Addr → Nat → Nat → Int → World → Prop), True) ∧ True
theorem stopcockref01_Sort.pays (R : Ending → World → Prop) : stopcockref01_Sort.owed R := ⟨(fun _ _ _ _ _ _ _ _ h => h), (fun _ => trivial), (fun _ _ _ _ h => h), (fun _ _ _ _ _ _ _ _ h => h), (fun _ => trivial), trivial⟩
set_option maxRecDepth 100000 in
theorem stopcockref01_Sort.ok {a0p : Option Addr} {a0n : Nat} {a0c : Nat} {w : World} {R : Ending → World → Prop} (h : stopcockref01_Sort.main a0p a0n a0c w R) : stopcockref01_Sort.C a0p a0n a0c w R :=
  ev_ok cxok (c := cx) Try.func80 (code := stopcockref01_Sort.code) (by kernel_rfl) [.tmp 2, .tmp 3] (by kernel_rfl) 53 (by kernel_rfl) (stopcockref01_Sort.sk R) (args := [(Value.slice a0p a0n a0c)]) (Nat.le_of_ble_eq_true rfl) (by kernel_rfl) (o := stopcockref01_Sort.owed R) (by kernel_rfl) (stopcockref01_Sort.pays R) h

/-! ### stopcock/stopcockref04.limit: function 81 -/
def stopcockref04_limit.b1 (t0 : Int) (t3 : Int) (t4 : Int) (w : World) (R : Ending → World → Prop) (C1 : Int → Int → Int → World → Prop) : Prop :=
  cond (decide (t4 < t0)) (
    C1 t0 (IntKind.i64.wrap (t3 * 256)) (IntKind.i64.wrap (t4 + 1)) w) (
    R (.returned (Value.int .i64 t3)) w)
def stopcockref04_limit.l1 (t0 : Int) (t3 : Int) (t4 : Int) (w : World) (R : Ending → World → Prop) : Prop :=
  ∃ (I : Int → Int → Int → World → Prop) (m : Int → Int → Int → World → Nat), I t0 t3 t4 w ∧
  ∀ (t0 : Int) (t3 : Int) (t4 : Int) (w : World), I t0 t3 t4 w →
  stopcockref04_limit.b1 t0 t3 t4 w R (fun t0' t3' t4' w' => I t0' t3' t4' w' ∧ m t0' t3' t4' w' < m t0 t3 t4 w)
def stopcockref04_limit.main (a0 : Int) (w : World) (R : Ending → World → Prop) : Prop :=
  stopcockref04_limit.l1 a0 1 0 w R
abbrev stopcockref04_limit.C (a0 : Int) (w : World) (R : Ending → World → Prop) : Prop := Calls Try.prog 81 #[(Value.int .i64 a0)] w R
noncomputable def stopcockref04_limit.code : Code := (Try.f81.body).getD .skip
noncomputable def stopcockref04_limit.sk (R : Ending → World → Prop) : Sk := (.seq .leaf (.seq .leaf (.seq (.seq .leaf (.block (.loop [(0, .int .i64), (3, .int .i64), (4, .int .i64)] (fun (t0 : Int) (t3 : Int) (t4 : Int) (w : World) => stopcockref04_limit.l1 t0 t3 t4 w R) (fun (C1 : Int → Int → Int → World → Prop) => .leaf)))) .leaf)))
def stopcockref04_limit.owed (R : Ending → World → Prop) : Prop :=
  (∀ (t0 : Int) (t3 : Int) (t4 : Int) (w : World), stopcockref04_limit.l1 t0 t3 t4 w R → stopcockref04_limit.l1 t0 t3 t4 w R) ∧ (∀ (C1 : Int → Int → Int → World → Prop), True) ∧ True
theorem stopcockref04_limit.pays (R : Ending → World → Prop) : stopcockref04_limit.owed R := ⟨(fun _ _ _ _ h => h), (fun _ => trivial), trivial⟩
set_option maxRecDepth 100000 in
theorem stopcockref04_limit.ok {a0 : Int} {w : World} {R : Ending → World → Prop} (h : stopcockref04_limit.main a0 w R) : stopcockref04_limit.C a0 w R :=
  ev_ok cxok (c := cx) Try.func81 (code := stopcockref04_limit.code) (by kernel_rfl) [.tmp 2] (by kernel_rfl) 13 (by kernel_rfl) (stopcockref04_limit.sk R) (args := [(Value.int .i64 a0)]) (Nat.le_of_ble_eq_true rfl) (by kernel_rfl) (o := stopcockref04_limit.owed R) (by kernel_rfl) (stopcockref04_limit.pays R) h

/-! ### stopcock/plat.Check: function 82 -/
def plat_Check.main (a0_0 : Int) (a0_1 : Int) (w : World) (R : Ending → World → Prop) : Prop :=
  newP w #[(Value.int .i64 a0_0), (Value.int .i64 a0_1)] 34 fun b1 w1 =>
  ∃ (x1 : Int), w1.cell? (⟨b1, 0, none⟩ : Addr) = some (Value.int .i64 x1) ∧
  (cond (decide (x1 < 6)) (
      R (.returned (Value.int .i64 1)) w1) (
      ∃ (x2 : Int), w1.cell? (⟨b1, 0, none⟩ : Addr) = some (Value.int .i64 x2) ∧
      (cond (decide (x2 > 24)) (
          R (.returned (Value.int .i64 1)) w1) (
          ∃ (x3 : Int), w1.cell? (⟨b1, 1, none⟩ : Addr) = some (Value.int .i64 x3) ∧
          (cond (decide (x3 < 2)) (
              R (.returned (Value.int .i64 1)) w1) (
              ∃ (x4 : Int), w1.cell? (⟨b1, 1, none⟩ : Addr) = some (Value.int .i64 x4) ∧
              (cond (decide (x4 > 16)) (
                  R (.returned (Value.int .i64 1)) w1) (
                  R (.returned (Value.int .i64 0)) w1))))))))
abbrev plat_Check.C (a0_0 : Int) (a0_1 : Int) (w : World) (R : Ending → World → Prop) : Prop := Calls Try.prog 82 #[(Value.agg #[(Value.int .i64 a0_0), (Value.int .i64 a0_1)])] w R
noncomputable def plat_Check.code : Code := (Try.f82.body).getD .skip
noncomputable def plat_Check.sk (R : Ending → World → Prop) : Sk := .leaf
def plat_Check.owed (R : Ending → World → Prop) : Prop :=
  True
theorem plat_Check.pays (R : Ending → World → Prop) : plat_Check.owed R := trivial
set_option maxRecDepth 100000 in
theorem plat_Check.ok {a0_0 : Int} {a0_1 : Int} {w : World} {R : Ending → World → Prop} (h : plat_Check.main a0_0 a0_1 w R) : plat_Check.C a0_0 a0_1 w R :=
  ev_ok cxok (c := cx) Try.func82 (code := plat_Check.code) (by kernel_rfl) [.tmp 2] (by kernel_rfl) 21 (by kernel_rfl) (plat_Check.sk R) (args := [(Value.agg #[(Value.int .i64 a0_0), (Value.int .i64 a0_1)])]) (Nat.le_of_ble_eq_true rfl) (by kernel_rfl) (o := plat_Check.owed R) (by kernel_rfl) (plat_Check.pays R) h

/-! ### stopcock/delta.Sound: function 83 -/
def delta_Sound.b1 (t1 : Nat) (t7 : Array Value) (t8 : Int) (w : World) (R : Ending → World → Prop) (C1 : Nat → Array Value → Int → World → Prop) : Prop :=
  cond (decide (t8 < 8)) (
    chk (decide (0 ≤ t8)) (
      chk (decide (t8 < (8 : Int))) (
        newP w #[(Value.int .i64 0), (Value.int .i64 0)] 27 fun b2 w2 =>
        chk (decide ((t7.extract (t8.toNat * 2) ((t8.toNat * 2) + 2)).size = 2)) (
          Wr w2 (⟨b2, 0, none⟩ : Addr) ((t7.extract (t8.toNat * 2) ((t8.toNat * 2) + 2)).toList) ∧ ∀ w3, w3 = w2.setCells (⟨b2, 0, none⟩ : Addr).block (⟨b2, 0, none⟩ : Addr).off ((t7.extract (t8.toNat * 2) ((t8.toNat * 2) + 2)).toList) →
          (chk (decide (0 ≤ t8)) (
              chk (decide (t8 < (8 : Int))) (
                ∃ (p1 : Option Addr) (n1 : Nat) (c1 : Nat), w3.cell? ((⟨t1, 16, none⟩ : Addr).add (t8.toNat * 1)) = some (Value.slice p1 n1 c1) ∧
                (∃ (x1 : Int), w3.cell? (⟨b2, 1, none⟩ : Addr) = some (Value.int .i64 x1) ∧
                  (cond (((n1 : Nat) : Int) != x1) (
                      R (.returned (Value.bool false)) w3) (
                      ∃ (x2 : Int), w3.cell? (⟨b2, 0, none⟩ : Addr) = some (Value.int .i64 x2) ∧
                      (cond (x2 == 0) (
                          ∃ (x3 : Int), w3.cell? (⟨b2, 1, none⟩ : Addr) = some (Value.int .i64 x3) ∧
                          (cond (x3 != 0) (
                          R (.returned (Value.bool false)) w3) (
                          ∃ (x4 : Int), w3.cell? (⟨b2, 0, none⟩ : Addr) = some (Value.int .i64 x4) ∧
                          (callP Try.prog 90 #[(Value.int .i64 x4), (Value.int .i64 0), (Value.int .i64 3)] w3 (fun v1 w4 =>
                          dB v1 fun b3 =>
                          cond (!b3) (
                          R (.returned (Value.bool false)) w4) (
                          ∃ (x5 : Int), w4.cell? (⟨b2, 0, none⟩ : Addr) = some (Value.int .i64 x5) ∧
                          (cond (x5 != 0) (
                          ∃ (x6 : Int), w4.cell? (⟨b2, 1, none⟩ : Addr) = some (Value.int .i64 x6) ∧
                          (callP Try.prog 90 #[(Value.int .i64 x6), (Value.int .i64 1), (Value.int .i64 33)] w4 (fun v2 w6 =>
                          dB v2 fun b4 =>
                          cond (!b4) (
                          R (.returned (Value.bool false)) w6) (
                          callP Try.prog 84 #[(Value.slice p1 n1 c1), (Value.func (.func 91) #[] #[])] w6 (fun v5 w12 =>
                          dB v5 fun b7 =>
                          cond b7 (
                          R (.returned (Value.bool false)) w12) (
                          C1 t1 t7 (IntKind.i64.wrap (t8 + 1)) w12)) (fun ch w13 => R (.panicked ch) w13))) (fun ch w7 => R (.panicked ch) w7))) (
                          callP Try.prog 84 #[(Value.slice p1 n1 c1), (Value.func (.func 91) #[] #[])] w4 (fun v6 w14 =>
                          dB v6 fun b8 =>
                          cond b8 (
                          R (.returned (Value.bool false)) w14) (
                          C1 t1 t7 (IntKind.i64.wrap (t8 + 1)) w14)) (fun ch w15 => R (.panicked ch) w15))))) (fun ch w5 => R (.panicked ch) w5))))) (
                          ∃ (x7 : Int), w3.cell? (⟨b2, 0, none⟩ : Addr) = some (Value.int .i64 x7) ∧
                          (callP Try.prog 90 #[(Value.int .i64 x7), (Value.int .i64 0), (Value.int .i64 3)] w3 (fun v3 w8 =>
                          dB v3 fun b5 =>
                          cond (!b5) (
                          R (.returned (Value.bool false)) w8) (
                          ∃ (x8 : Int), w8.cell? (⟨b2, 0, none⟩ : Addr) = some (Value.int .i64 x8) ∧
                          (cond (x8 != 0) (
                          ∃ (x9 : Int), w8.cell? (⟨b2, 1, none⟩ : Addr) = some (Value.int .i64 x9) ∧
                          (callP Try.prog 90 #[(Value.int .i64 x9), (Value.int .i64 1), (Value.int .i64 33)] w8 (fun v4 w10 =>
                          dB v4 fun b6 =>
                          cond (!b6) (
                          R (.returned (Value.bool false)) w10) (
                          callP Try.prog 84 #[(Value.slice p1 n1 c1), (Value.func (.func 91) #[] #[])] w10 (fun v7 w16 =>
                          dB v7 fun b9 =>
                          cond b9 (
                          R (.returned (Value.bool false)) w16) (
                          C1 t1 t7 (IntKind.i64.wrap (t8 + 1)) w16)) (fun ch w17 => R (.panicked ch) w17))) (fun ch w11 => R (.panicked ch) w11))) (
                          callP Try.prog 84 #[(Value.slice p1 n1 c1), (Value.func (.func 91) #[] #[])] w8 (fun v8 w18 =>
                          dB v8 fun b10 =>
                          cond b10 (
                          R (.returned (Value.bool false)) w18) (
                          C1 t1 t7 (IntKind.i64.wrap (t8 + 1)) w18)) (fun ch w19 => R (.panicked ch) w19))))) (fun ch w9 => R (.panicked ch) w9)))))))))))))) (
    R (.returned (Value.bool true)) w)
def delta_Sound.l1 (t1 : Nat) (t7 : Array Value) (t8 : Int) (w : World) (R : Ending → World → Prop) : Prop :=
  ∃ (I : Nat → Array Value → Int → World → Prop) (m : Nat → Array Value → Int → World → Nat), I t1 t7 t8 w ∧
  ∀ (t1 : Nat) (t7 : Array Value) (t8 : Int) (w : World), I t1 t7 t8 w →
  delta_Sound.b1 t1 t7 t8 w R (fun t1' t7' t8' w' => I t1' t7' t8' w' ∧ m t1' t7' t8' w' < m t1 t7 t8 w)
def delta_Sound.main (a0 : Array Value) (w : World) (R : Ending → World → Prop) : Prop :=
  newP w a0 32 fun b1 w1 =>
  ∃ (cs1 : Array Value), cs1.size = 16 ∧ CellsAt w1 (⟨b1, 0, none⟩ : Addr) cs1.toList ∧
  (delta_Sound.l1 b1 cs1 0 w1 R)
abbrev delta_Sound.C (a0 : Array Value) (w : World) (R : Ending → World → Prop) : Prop := Calls Try.prog 83 #[(Value.agg a0)] w R
noncomputable def delta_Sound.code : Code := (Try.f83.body).getD .skip
noncomputable def delta_Sound.sk (R : Ending → World → Prop) : Sk := (.seq .leaf (.seq (.seq .leaf (.block (.loop [(1, .blk), (7, .agg), (8, .int .i64)] (fun (t1 : Nat) (t7 : Array Value) (t8 : Int) (w : World) => delta_Sound.l1 t1 t7 t8 w R) (fun (C1 : Nat → Array Value → Int → World → Prop) => .leaf)))) .leaf))
def delta_Sound.owed (R : Ending → World → Prop) : Prop :=
  (∀ (t1 : Nat) (t7 : Array Value) (t8 : Int) (w : World), delta_Sound.l1 t1 t7 t8 w R → delta_Sound.l1 t1 t7 t8 w R) ∧ (∀ (C1 : Nat → Array Value → Int → World → Prop), True) ∧ True
theorem delta_Sound.pays (R : Ending → World → Prop) : delta_Sound.owed R := ⟨(fun _ _ _ _ h => h), (fun _ => trivial), trivial⟩
set_option maxRecDepth 100000 in
theorem delta_Sound.ok {a0 : Array Value} {w : World} {R : Ending → World → Prop} (h : delta_Sound.main a0 w R) : delta_Sound.C a0 w R :=
  ev_ok cxok (c := cx) Try.func83 (code := delta_Sound.code) (by kernel_rfl) [.tmp 2] (by kernel_rfl) 51 (by kernel_rfl) (delta_Sound.sk R) (args := [(Value.agg a0)]) (Nat.le_of_ble_eq_true rfl) (by kernel_rfl) (o := delta_Sound.owed R) (by kernel_rfl) (delta_Sound.pays R) h

/-! ### slices.ContainsFunc[[]complex128,complex128]: function 84 -/
def slices_ContainsFunc_complex128_complex128.main (a0p : Option Addr) (a0n : Nat) (a0c : Nat) (a1 : Value) (w : World) (R : Ending → World → Prop) : Prop :=
  callP Try.prog 93 #[(Value.slice a0p a0n a0c), a1] w (fun v1 w1 =>
    dI .i64 v1 fun x1 =>
    R (.returned (Value.bool (decide (x1 ≥ 0)))) w1) (fun ch w2 => R (.panicked ch) w2)
abbrev slices_ContainsFunc_complex128_complex128.C (a0p : Option Addr) (a0n : Nat) (a0c : Nat) (a1 : Value) (w : World) (R : Ending → World → Prop) : Prop := Calls Try.prog 84 #[(Value.slice a0p a0n a0c), a1] w R
noncomputable def slices_ContainsFunc_complex128_complex128.code : Code := (Try.f84.body).getD .skip
noncomputable def slices_ContainsFunc_complex128_complex128.sk (R : Ending → World → Prop) : Sk := .leaf
def slices_ContainsFunc_complex128_complex128.owed (R : Ending → World → Prop) : Prop :=
  True
theorem slices_ContainsFunc_complex128_complex128.pays (R : Ending → World → Prop) : slices_ContainsFunc_complex128_complex128.owed R := trivial
set_option maxRecDepth 100000 in
theorem slices_ContainsFunc_complex128_complex128.ok {a0p : Option Addr} {a0n : Nat} {a0c : Nat} {a1 : Value} {w : World} {R : Ending → World → Prop} (h : slices_ContainsFunc_complex128_complex128.main a0p a0n a0c a1 w R) : slices_ContainsFunc_complex128_complex128.C a0p a0n a0c a1 w R :=
  ev_ok cxok (c := cx) Try.func84 (code := slices_ContainsFunc_complex128_complex128.code) (by kernel_rfl) [.tmp 4] (by kernel_rfl) 9 (by kernel_rfl) (slices_ContainsFunc_complex128_complex128.sk R) (args := [(Value.slice a0p a0n a0c), a1]) (Nat.le_of_ble_eq_true rfl) (by kernel_rfl) (o := slices_ContainsFunc_complex128_complex128.owed R) (by kernel_rfl) (slices_ContainsFunc_complex128_complex128.pays R) h

/-! ### stopcock/owner.Within$1: function 85 -/
def owner_Within_1.main (a0r : Nat) (a0m : Nat) (q0 : Nat) (w : World) (R : Ending → World → Prop) : Prop :=
  ∃ (cs1 : Array Value), cs1.size = 2 ∧ CellsAt w (⟨q0, 0, none⟩ : Addr) cs1.toList ∧
  (callP Try.prog 86 #[(Value.agg cs1), (Value.complex .f64 a0r a0m)] w (fun v1 w1 =>
      dT v1 fun vs1 =>
      optP (vs1[0]?) fun v2 =>
      dI .i64 v2 fun x1 =>
      optP (vs1[1]?) fun v3 =>
      dI .i64 v3 fun x2 =>
      cond (!(fCmp .eql a0r 13830554455654793216 && fCmp .eql a0m 0)) (
        R (.returned (Value.bool (x2 != 0))) w1) (
        R (.returned (Value.bool false)) w1)) (fun ch w2 => R (.panicked ch) w2))
abbrev owner_Within_1.C (a0r : Nat) (a0m : Nat) (q0 : Nat) (w : World) (R : Ending → World → Prop) : Prop := Calls Try.prog 85 #[(Value.complex .f64 a0r a0m), (Value.pointer (some (⟨q0, 0, none⟩ : Addr)))] w R
noncomputable def owner_Within_1.code : Code := (Try.f85.body).getD .skip
noncomputable def owner_Within_1.sk (R : Ending → World → Prop) : Sk := .leaf
def owner_Within_1.owed (R : Ending → World → Prop) : Prop :=
  True
theorem owner_Within_1.pays (R : Ending → World → Prop) : owner_Within_1.owed R := trivial
set_option maxRecDepth 100000 in
theorem owner_Within_1.ok {a0r : Nat} {a0m : Nat} {q0 : Nat} {w : World} {R : Ending → World → Prop} (h : owner_Within_1.main a0r a0m q0 w R) : owner_Within_1.C a0r a0m q0 w R :=
  ev_ok cxok (c := cx) Try.func85 (code := owner_Within_1.code) (by kernel_rfl) [.tmp 3] (by kernel_rfl) 18 (by kernel_rfl) (owner_Within_1.sk R) (args := [(Value.complex .f64 a0r a0m), (Value.pointer (some (⟨q0, 0, none⟩ : Addr)))]) (Nat.le_of_ble_eq_true rfl) (by kernel_rfl) (o := owner_Within_1.owed R) (by kernel_rfl) (owner_Within_1.pays R) h

end Go.Proofs.Ythgmebhkbbehmaa.G

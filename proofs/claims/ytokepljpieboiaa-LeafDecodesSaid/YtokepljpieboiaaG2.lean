/- Statements of functions, and that their calls do what they say. Printed by wip/tool/dec.py. Conditions: none. -/
import Derived.Test.YtokepljpieboiaaG0
namespace Go.Proofs.Ytokepljpieboiaa.G
open Go.Dec
set_option linter.unusedVariables false

/-! ### stopcock/stopcockref07.Sound: function 21 -/
def stopcockref07_Sound.b2 (t1 : Nat) (t3 : Int) (t5 : Int) (t23 : Nat) (t24 : Int) (t25 : Bool) (t28 : Nat) (t29 : Int) (t30 : Bool) (t33 : Nat) (t34 : Int) (t35 : Bool) (t36 : Bool) (t40 : Bool) (t43 : Nat) (t44 : Int) (t45 : Bool) (t46 : Bool) (t55 : Bool) (w : World) (R : Ending → World → Prop) (C1 : Nat → Int → World → Prop) (C2 : Nat → Int → Int → Nat → Int → Bool → Nat → Int → Bool → Nat → Int → Bool → Bool → Bool → Nat → Int → Bool → Bool → Bool → World → Prop) : Prop :=
  chk (decide (0 ≤ t3)) (
    chk (decide (t3 < (8 : Int))) (
      ∃ (p2 : Option Addr) (n2 : Nat) (c2 : Nat), w.cell? ((⟨t1, 16, none⟩ : Addr).add (t3.toNat * 1)) = some (Value.slice p2 n2 c2) ∧
      (cond (decide (t5 < ((n2 : Nat) : Int))) (
          chk (decide (0 ≤ t3)) (
            chk (decide (t3 < (8 : Int))) (
              ∃ (p3 : Option Addr) (n3 : Nat) (c3 : Nat), w.cell? ((⟨t1, 16, none⟩ : Addr).add (t3.toNat * 1)) = some (Value.slice p3 n3 c3) ∧
              (chk (decide (0 ≤ t5)) (
                  chk (decide (t5 < ((n3 : Nat) : Int))) (
                    optP p3 fun d1 =>
                    ∃ (r1 : Nat) (m1 : Nat), w.cell? (d1.add (t5.toNat * 1)) = some (Value.complex .f64 r1 m1) ∧
                    (cond (!(fCmp .eql r1 13830554455654793216 && fCmp .eql m1 0)) (
                        chk (decide (0 ≤ t3)) (
                          chk (decide (t3 < (8 : Int))) (
                          ∃ (p4 : Option Addr) (n4 : Nat) (c4 : Nat), w.cell? ((⟨t1, 16, none⟩ : Addr).add (t3.toNat * 1)) = some (Value.slice p4 n4 c4) ∧
                          (chk (decide (0 ≤ t5)) (
                          chk (decide (t5 < ((n4 : Nat) : Int))) (
                          optP p4 fun d2 =>
                          ∃ (r2 : Nat) (m2 : Nat), w.cell? (d2.add (t5.toNat * 1)) = some (Value.complex .f64 r2 m2) ∧
                          (callP Try.prog 43 #[(Value.complex .f64 r2 m2)] w (fun v1 w4 =>
                          dB v1 fun b3 =>
                          cond (!b3) (
                          R (.returned (Value.bool false)) w4) (
                          C2 t1 t3 (IntKind.i64.wrap (t5 + 1)) t23 t24 t25 t28 t29 t30 t33 t34 t35 t36 t40 t43 t44 t45 t46 t55 w4)) (fun ch w5 => R (.panicked ch) w5)))))))) (
                        C2 t1 t3 (IntKind.i64.wrap (t5 + 1)) t23 t24 t25 t28 t29 t30 t33 t34 t35 t36 t40 t43 t44 t45 t46 t55 w)))))))) (
          C1 t1 (IntKind.i64.wrap (t3 + 1)) w))))
def stopcockref07_Sound.l2 (t1 : Nat) (t3 : Int) (t5 : Int) (t23 : Nat) (t24 : Int) (t25 : Bool) (t28 : Nat) (t29 : Int) (t30 : Bool) (t33 : Nat) (t34 : Int) (t35 : Bool) (t36 : Bool) (t40 : Bool) (t43 : Nat) (t44 : Int) (t45 : Bool) (t46 : Bool) (t55 : Bool) (w : World) (R : Ending → World → Prop) (C1 : Nat → Int → World → Prop) : Prop :=
  ∃ (I : Nat → Int → Int → Nat → Int → Bool → Nat → Int → Bool → Nat → Int → Bool → Bool → Bool → Nat → Int → Bool → Bool → Bool → World → Prop) (m : Nat → Int → Int → Nat → Int → Bool → Nat → Int → Bool → Nat → Int → Bool → Bool → Bool → Nat → Int → Bool → Bool → Bool → World → Nat), I t1 t3 t5 t23 t24 t25 t28 t29 t30 t33 t34 t35 t36 t40 t43 t44 t45 t46 t55 w ∧
  ∀ (t1 : Nat) (t3 : Int) (t5 : Int) (t23 : Nat) (t24 : Int) (t25 : Bool) (t28 : Nat) (t29 : Int) (t30 : Bool) (t33 : Nat) (t34 : Int) (t35 : Bool) (t36 : Bool) (t40 : Bool) (t43 : Nat) (t44 : Int) (t45 : Bool) (t46 : Bool) (t55 : Bool) (w : World), I t1 t3 t5 t23 t24 t25 t28 t29 t30 t33 t34 t35 t36 t40 t43 t44 t45 t46 t55 w →
  stopcockref07_Sound.b2 t1 t3 t5 t23 t24 t25 t28 t29 t30 t33 t34 t35 t36 t40 t43 t44 t45 t46 t55 w R C1 (fun t1' t3' t5' t23' t24' t25' t28' t29' t30' t33' t34' t35' t36' t40' t43' t44' t45' t46' t55' w' => I t1' t3' t5' t23' t24' t25' t28' t29' t30' t33' t34' t35' t36' t40' t43' t44' t45' t46' t55' w' ∧ m t1' t3' t5' t23' t24' t25' t28' t29' t30' t33' t34' t35' t36' t40' t43' t44' t45' t46' t55' w' < m t1 t3 t5 t23 t24 t25 t28 t29 t30 t33 t34 t35 t36 t40 t43 t44 t45 t46 t55 w)
def stopcockref07_Sound.k1 (t1 : Nat) (t3 : Int) (t23 : Nat) (t24 : Int) (t25 : Bool) (t28 : Nat) (t29 : Int) (t30 : Bool) (t33 : Nat) (t34 : Int) (t35 : Bool) (t36 : Bool) (t40 : Bool) (t43 : Nat) (t44 : Int) (t45 : Bool) (t46 : Bool) (t55 : Bool) (w : World) (R : Ending → World → Prop) (C1 : Nat → Int → World → Prop) : Prop :=
  stopcockref07_Sound.l2 t1 t3 0 t23 t24 t25 t28 t29 t30 t33 t34 t35 t36 t40 t43 t44 t45 t46 t55 w R C1
def stopcockref07_Sound.b1 (t1 : Nat) (t3 : Int) (w : World) (R : Ending → World → Prop) (C1 : Nat → Int → World → Prop) : Prop :=
  cond (decide (t3 < 8)) (
    chk (decide (0 ≤ t3)) (
      chk (decide (t3 < (8 : Int))) (
        ∃ (cs1 : Array Value), cs1.size = 2 ∧ CellsAt w ((⟨t1, 0, none⟩ : Addr).add (t3.toNat * 2)) cs1.toList ∧
        (newP w #[(Value.int .i64 0), (Value.int .i64 0)] 24 fun b2 w2 =>
          chk (decide (cs1.size = 2)) (
            Wr w2 (⟨b2, 0, none⟩ : Addr) cs1.toList ∧ ∀ w3, w3 = w2.setCells (⟨b2, 0, none⟩ : Addr).block (⟨b2, 0, none⟩ : Addr).off cs1.toList →
            (chk (decide (0 ≤ t3)) (
                chk (decide (t3 < (8 : Int))) (
                  ∃ (p1 : Option Addr) (n1 : Nat) (c1 : Nat), w3.cell? ((⟨t1, 16, none⟩ : Addr).add (t3.toNat * 1)) = some (Value.slice p1 n1 c1) ∧
                  (∃ (x1 : Int), w3.cell? (⟨b2, 1, none⟩ : Addr) = some (Value.int .i64 x1) ∧
                    (cond (((n1 : Nat) : Int) != x1) (
                        ∀ k1 : Nat,
                        R (.returned (Value.bool false)) (w3.drewN k1)) (
                        ∃ (x2 : Int), w3.cell? (⟨b2, 0, none⟩ : Addr) = some (Value.int .i64 x2) ∧
                        (cond (decide (x2 < 0)) (
                          ∀ k1 : Nat,
                          R (.returned (Value.bool false)) (w3.drewN k1)) (
                          ∃ (x3 : Int), w3.cell? (⟨b2, 0, none⟩ : Addr) = some (Value.int .i64 x3) ∧
                          (cond (decide (x3 > 2)) (
                          ∀ k1 : Nat,
                          R (.returned (Value.bool false)) (w3.drewN k1)) (
                          ∃ (x4 : Int), w3.cell? (⟨b2, 0, none⟩ : Addr) = some (Value.int .i64 x4) ∧
                          (cond (x4 == 0) (
                          ∃ (x5 : Int), w3.cell? (⟨b2, 1, none⟩ : Addr) = some (Value.int .i64 x5) ∧
                          (cond (x5 != 0) (
                          ∀ k1 : Nat,
                          R (.returned (Value.bool false)) (w3.drewN k1)) (
                          ∃ (x6 : Int), w3.cell? (⟨b2, 0, none⟩ : Addr) = some (Value.int .i64 x6) ∧
                          (cond (decide (x6 > 0)) (
                          ∃ (x7 : Int), w3.cell? (⟨b2, 1, none⟩ : Addr) = some (Value.int .i64 x7) ∧
                          (cond (decide (x7 < 1)) (
                          ∀ k1 : Nat,
                          R (.returned (Value.bool false)) (w3.drewN k1)) (
                          ∃ (x8 : Int), w3.cell? (⟨b2, 1, none⟩ : Addr) = some (Value.int .i64 x8) ∧
                          (∀ k1 : Nat,
                          cond (decide (x8 > 32)) (
                          R (.returned (Value.bool false)) (w3.drewN k1)) (
                          stopcockref07_Sound.k1 t1 t3 b2 x2 (decide (x2 < 0)) b2 x3 (decide (x3 > 2)) b2 x4 (x4 == 0) true (x5 != 0) b2 x6 (decide (x6 > 0)) true (decide (x8 > 32)) (w3.drewN k1) R C1))))) (
                          ∀ k1 : Nat,
                          stopcockref07_Sound.k1 t1 t3 b2 x2 (decide (x2 < 0)) b2 x3 (decide (x3 > 2)) b2 x4 (x4 == 0) true (x5 != 0) b2 x6 (decide (x6 > 0)) false false (w3.drewN k1) R C1))))) (
                          ∃ (x9 : Int), w3.cell? (⟨b2, 0, none⟩ : Addr) = some (Value.int .i64 x9) ∧
                          (cond (decide (x9 > 0)) (
                          ∃ (x10 : Int), w3.cell? (⟨b2, 1, none⟩ : Addr) = some (Value.int .i64 x10) ∧
                          (cond (decide (x10 < 1)) (
                          ∀ k1 : Nat,
                          R (.returned (Value.bool false)) (w3.drewN k1)) (
                          ∃ (x11 : Int), w3.cell? (⟨b2, 1, none⟩ : Addr) = some (Value.int .i64 x11) ∧
                          (∀ k1 : Nat,
                          cond (decide (x11 > 32)) (
                          R (.returned (Value.bool false)) (w3.drewN k1)) (
                          stopcockref07_Sound.k1 t1 t3 b2 x2 (decide (x2 < 0)) b2 x3 (decide (x3 > 2)) b2 x4 (x4 == 0) false false b2 x9 (decide (x9 > 0)) true (decide (x11 > 32)) (w3.drewN k1) R C1))))) (
                          ∀ k1 : Nat,
                          stopcockref07_Sound.k1 t1 t3 b2 x2 (decide (x2 < 0)) b2 x3 (decide (x3 > 2)) b2 x4 (x4 == 0) false false b2 x9 (decide (x9 > 0)) false false (w3.drewN k1) R C1))))))))))))))))))) (
    R (.returned (Value.bool true)) w)
def stopcockref07_Sound.l1 (t1 : Nat) (t3 : Int) (w : World) (R : Ending → World → Prop) : Prop :=
  ∃ (I : Nat → Int → World → Prop) (m : Nat → Int → World → Nat), I t1 t3 w ∧
  ∀ (t1 : Nat) (t3 : Int) (w : World), I t1 t3 w →
  stopcockref07_Sound.b1 t1 t3 w R (fun t1' t3' w' => I t1' t3' w' ∧ m t1' t3' w' < m t1 t3 w)
def stopcockref07_Sound.main (a0 : Array Value) (w : World) (R : Ending → World → Prop) : Prop :=
  newP w a0 29 fun b1 w1 =>
  stopcockref07_Sound.l1 b1 0 w1 R
abbrev stopcockref07_Sound.C (a0 : Array Value) (w : World) (R : Ending → World → Prop) : Prop := Calls Try.prog 21 #[(Value.agg a0)] w R
noncomputable def stopcockref07_Sound.code : Code := (Try.f21.body).getD .skip
noncomputable def stopcockref07_Sound.sk (R : Ending → World → Prop) : Sk := (.seq .leaf (.seq (.seq .leaf (.block (.loop [(1, .blk), (3, .int .i64)] (fun (t1 : Nat) (t3 : Int) (w : World) => stopcockref07_Sound.l1 t1 t3 w R) (fun (C1 : Nat → Int → World → Prop) => (.seq .leaf (.seq (.block (.seq .leaf (.cut [(1, .blk), (3, .int .i64), (23, .blk), (24, .int .i64), (25, .bool), (28, .blk), (29, .int .i64), (30, .bool), (33, .blk), (34, .int .i64), (35, .bool), (36, .bool), (40, .bool), (43, .blk), (44, .int .i64), (45, .bool), (46, .bool), (55, .bool)] (fun (t1 : Nat) (t3 : Int) (t23 : Nat) (t24 : Int) (t25 : Bool) (t28 : Nat) (t29 : Int) (t30 : Bool) (t33 : Nat) (t34 : Int) (t35 : Bool) (t36 : Bool) (t40 : Bool) (t43 : Nat) (t44 : Int) (t45 : Bool) (t46 : Bool) (t55 : Bool) (w : World) => stopcockref07_Sound.k1 t1 t3 t23 t24 t25 t28 t29 t30 t33 t34 t35 t36 t40 t43 t44 t45 t46 t55 w R C1) .leaf (.seq .leaf (.block (.loop [(1, .blk), (3, .int .i64), (5, .int .i64), (23, .blk), (24, .int .i64), (25, .bool), (28, .blk), (29, .int .i64), (30, .bool), (33, .blk), (34, .int .i64), (35, .bool), (36, .bool), (40, .bool), (43, .blk), (44, .int .i64), (45, .bool), (46, .bool), (55, .bool)] (fun (t1 : Nat) (t3 : Int) (t5 : Int) (t23 : Nat) (t24 : Int) (t25 : Bool) (t28 : Nat) (t29 : Int) (t30 : Bool) (t33 : Nat) (t34 : Int) (t35 : Bool) (t36 : Bool) (t40 : Bool) (t43 : Nat) (t44 : Int) (t45 : Bool) (t46 : Bool) (t55 : Bool) (w : World) => stopcockref07_Sound.l2 t1 t3 t5 t23 t24 t25 t28 t29 t30 t33 t34 t35 t36 t40 t43 t44 t45 t46 t55 w R C1) (fun (C2 : Nat → Int → Int → Nat → Int → Bool → Nat → Int → Bool → Nat → Int → Bool → Bool → Bool → Nat → Int → Bool → Bool → Bool → World → Prop) => .leaf))))))) .leaf)))))) .leaf))
def stopcockref07_Sound.owed (R : Ending → World → Prop) : Prop :=
  (∀ (t1 : Nat) (t3 : Int) (w : World), stopcockref07_Sound.l1 t1 t3 w R → stopcockref07_Sound.l1 t1 t3 w R) ∧ (∀ (C1 : Nat → Int → World → Prop), (∀ (t1 : Nat) (t3 : Int) (t23 : Nat) (t24 : Int) (t25 : Bool) (t28 : Nat) (t29 : Int) (t30 : Bool) (t33 : Nat) (t34 : Int) (t35 : Bool) (t36 : Bool) (t40 : Bool) (t43 : Nat) (t44 : Int) (t45 : Bool) (t46 : Bool) (t55 : Bool) (w : World), stopcockref07_Sound.k1 t1 t3 t23 t24 t25 t28 t29 t30 t33 t34 t35 t36 t40 t43 t44 t45 t46 t55 w R C1 → stopcockref07_Sound.k1 t1 t3 t23 t24 t25 t28 t29 t30 t33 t34 t35 t36 t40 t43 t44 t45 t46 t55 w R C1) ∧ (∀ (t1 : Nat) (t3 : Int) (t5 : Int) (t23 : Nat) (t24 : Int) (t25 : Bool) (t28 : Nat) (t29 : Int) (t30 : Bool) (t33 : Nat) (t34 : Int) (t35 : Bool) (t36 : Bool) (t40 : Bool) (t43 : Nat) (t44 : Int) (t45 : Bool) (t46 : Bool) (t55 : Bool) (w : World), stopcockref07_Sound.l2 t1 t3 t5 t23 t24 t25 t28 t29 t30 t33 t34 t35 t36 t40 t43 t44 t45 t46 t55 w R C1 → stopcockref07_Sound.l2 t1 t3 t5 t23 t24 t25 t28 t29 t30 t33 t34 t35 t36 t40 t43 t44 t45 t46 t55 w R C1) ∧ (∀ (C2 : Nat → Int → Int → Nat → Int → Bool → Nat → Int → Bool → Nat → Int → Bool → Bool → Bool → Nat → Int → Bool → Bool → Bool → World → Prop), True) ∧ True) ∧ True
theorem stopcockref07_Sound.pays (R : Ending → World → Prop) : stopcockref07_Sound.owed R := ⟨(fun _ _ _ h => h), (fun _ => ⟨(fun _ _ _ _ _ _ _ _ _ _ _ _ _ _ _ _ _ _ _ h => h), (fun _ _ _ _ _ _ _ _ _ _ _ _ _ _ _ _ _ _ _ _ h => h), (fun _ => trivial), trivial⟩), trivial⟩
set_option maxRecDepth 100000 in
theorem stopcockref07_Sound.ok {a0 : Array Value} {w : World} {R : Ending → World → Prop} (h : stopcockref07_Sound.main a0 w R) : stopcockref07_Sound.C a0 w R :=
  ev_ok cxok (c := cx) Try.func21 (code := stopcockref07_Sound.code) (by kernel_rfl) [.tmp 2] (by kernel_rfl) 85 (by kernel_rfl) (stopcockref07_Sound.sk R) (args := [(Value.agg a0)]) (Nat.le_of_ble_eq_true rfl) (by kernel_rfl) (o := stopcockref07_Sound.owed R) (by kernel_rfl) (stopcockref07_Sound.pays R) h

/-! ### stopcock/leaf.read$1: function 23 -/
def leaf_read_1.main (a0 : Int) (a1 : Int) (q0 : Nat) (w : World) (R : Ending → World → Prop) : Prop :=
  ∃ (p1 : Option Addr) (n1 : Nat) (c1 : Nat), w.cell? (⟨q0, 0, none⟩ : Addr) = some (Value.slice p1 n1 c1) ∧
  (callP Try.prog 24 #[(Value.slice p1 n1 c1), (Value.int .i64 a0), (Value.int .i64 a1)] w (fun v1 w1 =>
      dT v1 fun vs1 =>
      optP (vs1[0]?) fun v2 =>
      dI .i64 v2 fun x1 =>
      optP (vs1[1]?) fun v3 =>
      dI .i64 v3 fun x2 =>
      R (.returned (Value.int .i64 x1)) w1) (fun ch w2 => R (.panicked ch) w2))
abbrev leaf_read_1.C (a0 : Int) (a1 : Int) (q0 : Nat) (w : World) (R : Ending → World → Prop) : Prop := Calls Try.prog 23 #[(Value.int .i64 a0), (Value.int .i64 a1), (Value.pointer (some (⟨q0, 0, none⟩ : Addr)))] w R
noncomputable def leaf_read_1.code : Code := (Try.f23.body).getD .skip
noncomputable def leaf_read_1.sk (R : Ending → World → Prop) : Sk := .leaf
def leaf_read_1.owed (R : Ending → World → Prop) : Prop :=
  True
theorem leaf_read_1.pays (R : Ending → World → Prop) : leaf_read_1.owed R := trivial
set_option maxRecDepth 100000 in
theorem leaf_read_1.ok {a0 : Int} {a1 : Int} {q0 : Nat} {w : World} {R : Ending → World → Prop} (h : leaf_read_1.main a0 a1 q0 w R) : leaf_read_1.C a0 a1 q0 w R :=
  ev_ok cxok (c := cx) Try.func23 (code := leaf_read_1.code) (by kernel_rfl) [.tmp 5] (by kernel_rfl) 16 (by kernel_rfl) (leaf_read_1.sk R) (args := [(Value.int .i64 a0), (Value.int .i64 a1), (Value.pointer (some (⟨q0, 0, none⟩ : Addr)))]) (Nat.le_of_ble_eq_true rfl) (by kernel_rfl) (o := leaf_read_1.owed R) (by kernel_rfl) (leaf_read_1.pays R) h

/-! ### stopcock/cell.Get: function 24 -/
def cell_Get.main (a0p : Option Addr) (a0n : Nat) (a0c : Nat) (a1 : Int) (a2 : Int) (w : World) (R : Ending → World → Prop) : Prop :=
  callP Try.prog 44 #[(Value.int .i64 a2)] w (fun v1 w1 =>
    dB v1 fun b1 =>
    cond (!b1) (
      R (.returned (Value.tuple #[(Value.int .i64 0), (Value.int .i64 1)])) w1) (
      cond (decide (a1 < 0)) (
        R (.returned (Value.tuple #[(Value.int .i64 0), (Value.int .i64 3)])) w1) (
        cond (decide (a1 > (IntKind.i64.wrap (((a0n : Nat) : Int) - a2)))) (
          R (.returned (Value.tuple #[(Value.int .i64 0), (Value.int .i64 3)])) w1) (
          chk (decide (0 ≤ (IntKind.i64.wrap (a1 + a2)))) (
            chk (decide ((IntKind.i64.wrap (a1 + a2)) ≤ ((a0c : Nat) : Int))) (
              chk (decide (0 ≤ a1)) (
                chk (decide (a1 ≤ (((IntKind.i64.wrap (a1 + a2)).toNat : Nat) : Int))) (
                  callP Try.prog 45 #[(Value.slice (slA a0p a0c a1.toNat 1) ((IntKind.i64.wrap (a1 + a2)).toNat - a1.toNat) (a0c - a1.toNat))] w1 (fun v2 w3 =>
                    dI .i64 v2 fun x1 =>
                    R (.returned (Value.tuple #[(Value.int .i64 x1), (Value.int .i64 0)])) w3) (fun ch w4 => R (.panicked ch) w4))))))))) (fun ch w2 => R (.panicked ch) w2)
abbrev cell_Get.C (a0p : Option Addr) (a0n : Nat) (a0c : Nat) (a1 : Int) (a2 : Int) (w : World) (R : Ending → World → Prop) : Prop := Calls Try.prog 24 #[(Value.slice a0p a0n a0c), (Value.int .i64 a1), (Value.int .i64 a2)] w R
noncomputable def cell_Get.code : Code := (Try.f24.body).getD .skip
noncomputable def cell_Get.sk (R : Ending → World → Prop) : Sk := .leaf
def cell_Get.owed (R : Ending → World → Prop) : Prop :=
  True
theorem cell_Get.pays (R : Ending → World → Prop) : cell_Get.owed R := trivial
set_option maxRecDepth 100000 in
theorem cell_Get.ok {a0p : Option Addr} {a0n : Nat} {a0c : Nat} {a1 : Int} {a2 : Int} {w : World} {R : Ending → World → Prop} (h : cell_Get.main a0p a0n a0c a1 a2 w R) : cell_Get.C a0p a0n a0c a1 a2 w R :=
  ev_ok cxok (c := cx) Try.func24 (code := cell_Get.code) (by kernel_rfl) [.tmp 6, .tmp 7] (by kernel_rfl) 30 (by kernel_rfl) (cell_Get.sk R) (args := [(Value.slice a0p a0n a0c), (Value.int .i64 a1), (Value.int .i64 a2)]) (Nat.le_of_ble_eq_true rfl) (by kernel_rfl) (o := cell_Get.owed R) (by kernel_rfl) (cell_Get.pays R) h

/-! ### stopcock/seal.Close: function 25 -/
def seal_Close.main (a0p : Option Addr) (a0n : Nat) (a0c : Nat) (w : World) (R : Ending → World → Prop) : Prop :=
  cond (decide (((a0n : Nat) : Int) > 60)) (
    R (.returned (Value.tuple #[(Value.slice none 0 0), (Value.int .i64 6)])) w) (
    newP w (madeCells #[(Value.int .u8 0)] (64 * 1)) 5 fun b1 w1 =>
    copyP w1 (some ⟨b1, 0, none⟩) 60 a0p a0n 1 fun w2 =>
    callP Try.prog 35 #[(Value.slice (some ⟨b1, 0, none⟩) 60 64)] w2 (fun v1 w3 =>
      dI .u32 v1 fun x1 =>
      newP w3 #[(Value.int .u8 (IntKind.u8.wrap (Int.fdiv x1 (2 ^ (min 24 IntKind.u32.bits))))), (Value.int .u8 (IntKind.u8.wrap (Int.fdiv x1 (2 ^ (min 16 IntKind.u32.bits))))), (Value.int .u8 (IntKind.u8.wrap (Int.fdiv x1 (2 ^ (min 8 IntKind.u32.bits))))), (Value.int .u8 (IntKind.u8.wrap x1))] 5 fun b2 w5 =>
      appP w5 (some ⟨b1, 0, none⟩) 60 64 4 (CellsO w5 (some ⟨b2, 0, none⟩)) 5 1 1 #[(Value.int .u8 0)] fun p1 c1 w6 =>
      R (.returned (Value.tuple #[(Value.slice p1 (60 + 4) c1), (Value.int .i64 0)])) w6) (fun ch w4 => R (.panicked ch) w4))
abbrev seal_Close.C (a0p : Option Addr) (a0n : Nat) (a0c : Nat) (w : World) (R : Ending → World → Prop) : Prop := Calls Try.prog 25 #[(Value.slice a0p a0n a0c)] w R
noncomputable def seal_Close.code : Code := (Try.f25.body).getD .skip
noncomputable def seal_Close.sk (R : Ending → World → Prop) : Sk := .leaf
def seal_Close.owed (R : Ending → World → Prop) : Prop :=
  True
theorem seal_Close.pays (R : Ending → World → Prop) : seal_Close.owed R := trivial
set_option maxRecDepth 100000 in
theorem seal_Close.ok {a0p : Option Addr} {a0n : Nat} {a0c : Nat} {w : World} {R : Ending → World → Prop} (h : seal_Close.main a0p a0n a0c w R) : seal_Close.C a0p a0n a0c w R :=
  ev_ok cxok (c := cx) Try.func25 (code := seal_Close.code) (by kernel_rfl) [.tmp 2, .tmp 3] (by kernel_rfl) 29 (by kernel_rfl) (seal_Close.sk R) (args := [(Value.slice a0p a0n a0c)]) (Nat.le_of_ble_eq_true rfl) (by kernel_rfl) (o := seal_Close.owed R) (by kernel_rfl) (seal_Close.pays R) h

/-! ### bytes.Equal: function 26 -/
def bytes_Equal.main (a0p : Option Addr) (a0n : Nat) (a0c : Nat) (a1p : Option Addr) (a1n : Nat) (a1c : Nat) (w : World) (R : Ending → World → Prop) : Prop :=
  ∃ (ns1 : List Int), ns1.length = a0n ∧ CellsO w a0p (ns1.map (Value.int .u8)) ∧
  (∃ (ns2 : List Int), ns2.length = a1n ∧ CellsO w a1p (ns2.map (Value.int .u8)) ∧
    (R (.returned (Value.bool ((strOf ns1).toList == (strOf ns2).toList))) w))
abbrev bytes_Equal.C (a0p : Option Addr) (a0n : Nat) (a0c : Nat) (a1p : Option Addr) (a1n : Nat) (a1c : Nat) (w : World) (R : Ending → World → Prop) : Prop := Calls Try.prog 26 #[(Value.slice a0p a0n a0c), (Value.slice a1p a1n a1c)] w R
noncomputable def bytes_Equal.code : Code := (Try.f26.body).getD .skip
noncomputable def bytes_Equal.sk (R : Ending → World → Prop) : Sk := .leaf
def bytes_Equal.owed (R : Ending → World → Prop) : Prop :=
  True
theorem bytes_Equal.pays (R : Ending → World → Prop) : bytes_Equal.owed R := trivial
set_option maxRecDepth 100000 in
theorem bytes_Equal.ok {a0p : Option Addr} {a0n : Nat} {a0c : Nat} {a1p : Option Addr} {a1n : Nat} {a1c : Nat} {w : World} {R : Ending → World → Prop} (h : bytes_Equal.main a0p a0n a0c a1p a1n a1c w R) : bytes_Equal.C a0p a0n a0c a1p a1n a1c w R :=
  ev_ok cxok (c := cx) Try.func26 (code := bytes_Equal.code) (by kernel_rfl) [.tmp 4] (by kernel_rfl) 10 (by kernel_rfl) (bytes_Equal.sk R) (args := [(Value.slice a0p a0n a0c), (Value.slice a1p a1n a1c)]) (Nat.le_of_ble_eq_true rfl) (by kernel_rfl) (o := bytes_Equal.owed R) (by kernel_rfl) (bytes_Equal.pays R) h

/-! ### bytes.Clone: function 27 -/
def bytes_Clone.main (a0p : Option Addr) (a0n : Nat) (a0c : Nat) (w : World) (R : Ending → World → Prop) : Prop :=
  cond (Option.isNone a0p) (
    R (.returned (Value.slice none 0 0)) w) (
    newP w #[] 5 fun b1 w1 =>
    appP w1 (some ⟨b1, 0, none⟩) 0 0 a0n (CellsO w1 a0p) 5 1 1 #[(Value.int .u8 0)] fun p1 c1 w2 =>
    R (.returned (Value.slice p1 (0 + a0n) c1)) w2)
abbrev bytes_Clone.C (a0p : Option Addr) (a0n : Nat) (a0c : Nat) (w : World) (R : Ending → World → Prop) : Prop := Calls Try.prog 27 #[(Value.slice a0p a0n a0c)] w R
noncomputable def bytes_Clone.code : Code := (Try.f27.body).getD .skip
noncomputable def bytes_Clone.sk (R : Ending → World → Prop) : Sk := .leaf
def bytes_Clone.owed (R : Ending → World → Prop) : Prop :=
  True
theorem bytes_Clone.pays (R : Ending → World → Prop) : bytes_Clone.owed R := trivial
set_option maxRecDepth 100000 in
theorem bytes_Clone.ok {a0p : Option Addr} {a0n : Nat} {a0c : Nat} {w : World} {R : Ending → World → Prop} (h : bytes_Clone.main a0p a0n a0c w R) : bytes_Clone.C a0p a0n a0c w R :=
  ev_ok cxok (c := cx) Try.func27 (code := bytes_Clone.code) (by kernel_rfl) [.tmp 2] (by kernel_rfl) 8 (by kernel_rfl) (bytes_Clone.sk R) (args := [(Value.slice a0p a0n a0c)]) (Nat.le_of_ble_eq_true rfl) (by kernel_rfl) (o := bytes_Clone.owed R) (by kernel_rfl) (bytes_Clone.pays R) h

/-! ### stopcock/cell.Unrow: function 28 -/
def cell_Unrow.b1 (t0p : Option Addr) (t0n : Nat) (t0c : Nat) (t1 : Int) (t6p : Option Addr) (t6n : Nat) (t6c : Nat) (w : World) (R : Ending → World → Prop) (C1 : Option Addr → Nat → Nat → Int → Option Addr → Nat → Nat → World → Prop) : Prop :=
  cond (decide (((t0n : Nat) : Int) > 0)) (
    chk (decide (0 ≤ t1)) (
      chk (decide (t1 ≤ ((t0c : Nat) : Int))) (
        callP Try.prog 45 #[(Value.slice (slA t0p t0c 0 1) t1.toNat t0c)] w (fun v2 w3 =>
          dI .i64 v2 fun x1 =>
          newP w3 #[(Value.int .i64 x1)] 3 fun b2 w5 =>
          appP w5 t6p t6n t6c 1 (CellsO w5 (some ⟨b2, 0, none⟩)) 3 1 8 #[(Value.int .i64 0)] fun p1 c1 w6 =>
          chk (decide (0 ≤ t1)) (
            chk (decide (t1 ≤ ((t0n : Nat) : Int))) (
              C1 (slA t0p t0c t1.toNat 1) (t0n - t1.toNat) (t0c - t1.toNat) t1 p1 (t6n + 1) c1 w6))) (fun ch w4 => R (.panicked ch) w4)))) (
    R (.returned (Value.tuple #[(Value.slice t6p t6n t6c), (Value.int .i64 0)])) w)
def cell_Unrow.l1 (t0p : Option Addr) (t0n : Nat) (t0c : Nat) (t1 : Int) (t6p : Option Addr) (t6n : Nat) (t6c : Nat) (w : World) (R : Ending → World → Prop) : Prop :=
  ∃ (I : Option Addr → Nat → Nat → Int → Option Addr → Nat → Nat → World → Prop) (m : Option Addr → Nat → Nat → Int → Option Addr → Nat → Nat → World → Nat), I t0p t0n t0c t1 t6p t6n t6c w ∧
  ∀ (t0p : Option Addr) (t0n : Nat) (t0c : Nat) (t1 : Int) (t6p : Option Addr) (t6n : Nat) (t6c : Nat) (w : World), I t0p t0n t0c t1 t6p t6n t6c w →
  cell_Unrow.b1 t0p t0n t0c t1 t6p t6n t6c w R (fun t0p' t0n' t0c' t1' t6p' t6n' t6c' w' => I t0p' t0n' t0c' t1' t6p' t6n' t6c' w' ∧ m t0p' t0n' t0c' t1' t6p' t6n' t6c' w' < m t0p t0n t0c t1 t6p t6n t6c w)
def cell_Unrow.main (a0p : Option Addr) (a0n : Nat) (a0c : Nat) (a1 : Int) (w : World) (R : Ending → World → Prop) : Prop :=
  callP Try.prog 44 #[(Value.int .i64 a1)] w (fun v1 w1 =>
    dB v1 fun b1 =>
    cond (!b1) (
      R (.returned (Value.tuple #[(Value.slice none 0 0), (Value.int .i64 1)])) w1) (
      chk (decide (a1 ≠ 0)) (
        cond ((Int.tmod ((a0n : Nat) : Int) a1) != 0) (
          R (.returned (Value.tuple #[(Value.slice none 0 0), (Value.int .i64 6)])) w1) (
          cell_Unrow.l1 a0p a0n a0c a1 none 0 0 w1 R)))) (fun ch w2 => R (.panicked ch) w2)
abbrev cell_Unrow.C (a0p : Option Addr) (a0n : Nat) (a0c : Nat) (a1 : Int) (w : World) (R : Ending → World → Prop) : Prop := Calls Try.prog 28 #[(Value.slice a0p a0n a0c), (Value.int .i64 a1)] w R
noncomputable def cell_Unrow.code : Code := (Try.f28.body).getD .skip
noncomputable def cell_Unrow.sk (R : Ending → World → Prop) : Sk := (.seq .leaf (.seq .leaf (.seq .leaf (.seq (.block (.loop [(0, .slice), (1, .int .i64), (6, .slice)] (fun (t0p : Option Addr) (t0n : Nat) (t0c : Nat) (t1 : Int) (t6p : Option Addr) (t6n : Nat) (t6c : Nat) (w : World) => cell_Unrow.l1 t0p t0n t0c t1 t6p t6n t6c w R) (fun (C1 : Option Addr → Nat → Nat → Int → Option Addr → Nat → Nat → World → Prop) => .leaf))) .leaf))))
def cell_Unrow.owed (R : Ending → World → Prop) : Prop :=
  (∀ (t0p : Option Addr) (t0n : Nat) (t0c : Nat) (t1 : Int) (t6p : Option Addr) (t6n : Nat) (t6c : Nat) (w : World), cell_Unrow.l1 t0p t0n t0c t1 t6p t6n t6c w R → cell_Unrow.l1 t0p t0n t0c t1 t6p t6n t6c w R) ∧ (∀ (C1 : Option Addr → Nat → Nat → Int → Option Addr → Nat → Nat → World → Prop), True) ∧ True
theorem cell_Unrow.pays (R : Ending → World → Prop) : cell_Unrow.owed R := ⟨(fun _ _ _ _ _ _ _ _ h => h), (fun _ => trivial), trivial⟩
set_option maxRecDepth 100000 in
theorem cell_Unrow.ok {a0p : Option Addr} {a0n : Nat} {a0c : Nat} {a1 : Int} {w : World} {R : Ending → World → Prop} (h : cell_Unrow.main a0p a0n a0c a1 w R) : cell_Unrow.C a0p a0n a0c a1 w R :=
  ev_ok cxok (c := cx) Try.func28 (code := cell_Unrow.code) (by kernel_rfl) [.tmp 4, .tmp 5] (by kernel_rfl) 31 (by kernel_rfl) (cell_Unrow.sk R) (args := [(Value.slice a0p a0n a0c), (Value.int .i64 a1)]) (Nat.le_of_ble_eq_true rfl) (by kernel_rfl) (o := cell_Unrow.owed R) (by kernel_rfl) (cell_Unrow.pays R) h

/-! ### stopcock/axis.Place: function 29 -/
def axis_Place.main (a0 : Int) (a1 : Int) (w : World) (R : Ending → World → Prop) : Prop :=
  callP Try.prog 46 #[(Value.int .i64 a1)] w (fun v1 w1 =>
    dB v1 fun b1 =>
    cond (!b1) (
      R (.returned (Value.tuple #[(Value.complex .f64 0 0), (Value.int .i64 1)])) w1) (
      cond (decide (a0 < 0)) (
        R (.returned (Value.tuple #[(Value.complex .f64 0 0), (Value.int .i64 5)])) w1) (
        cond (decide (a0 ≥ (IntKind.i64.wrap (24 * a1)))) (
          R (.returned (Value.tuple #[(Value.complex .f64 0 0), (Value.int .i64 5)])) w1) (
          chk (decide (a1 ≠ 0)) (
            chk (decide (a1 ≠ 0)) (
              ∀ k1 : Nat,
              R (.returned (Value.tuple #[(Value.complex .f64 (FloatKind.f64.nearest (IntKind.i64.wrap (Int.tdiv a0 a1))) (FloatKind.f64.nearest (Int.tmod a0 a1))), (Value.int .i64 0)])) (w1.drewN k1))))))) (fun ch w2 => R (.panicked ch) w2)
abbrev axis_Place.C (a0 : Int) (a1 : Int) (w : World) (R : Ending → World → Prop) : Prop := Calls Try.prog 29 #[(Value.int .i64 a0), (Value.int .i64 a1)] w R
noncomputable def axis_Place.code : Code := (Try.f29.body).getD .skip
noncomputable def axis_Place.sk (R : Ending → World → Prop) : Sk := .leaf
def axis_Place.owed (R : Ending → World → Prop) : Prop :=
  True
theorem axis_Place.pays (R : Ending → World → Prop) : axis_Place.owed R := trivial
set_option maxRecDepth 100000 in
theorem axis_Place.ok {a0 : Int} {a1 : Int} {w : World} {R : Ending → World → Prop} (h : axis_Place.main a0 a1 w R) : axis_Place.C a0 a1 w R :=
  ev_ok cxok (c := cx) Try.func29 (code := axis_Place.code) (by kernel_rfl) [.tmp 4, .tmp 5] (by kernel_rfl) 28 (by kernel_rfl) (axis_Place.sk R) (args := [(Value.int .i64 a0), (Value.int .i64 a1)]) (Nat.le_of_ble_eq_true rfl) (by kernel_rfl) (o := axis_Place.owed R) (by kernel_rfl) (axis_Place.pays R) h

/-! ### stopcock/owner.Fit: function 30 -/
def owner_Fit.main (a0 : Array Value) (a1_0 : Int) (a1_1 : Int) (w : World) (R : Ending → World → Prop) : Prop :=
  newP w a0 29 fun b1 w1 =>
  newP w1 #[(Value.int .i64 a1_0), (Value.int .i64 a1_1)] 31 fun b2 w2 =>
  ∃ (cs1 : Array Value), cs1.size = 24 ∧ CellsAt w2 (⟨b1, 0, none⟩ : Addr) cs1.toList ∧
  (∃ (cs2 : Array Value), cs2.size = 2 ∧ CellsAt w2 (⟨b2, 0, none⟩ : Addr) cs2.toList ∧
    (callP Try.prog 47 #[(Value.agg cs1), (Value.agg cs2)] w2 (fun v1 w3 =>
        dI .i64 v1 fun x1 =>
        cond (x1 != 0) (
          R (.returned (Value.int .i64 x1)) w3) (
          ∃ (cs3 : Array Value), cs3.size = 2 ∧ CellsAt w3 (⟨b2, 0, none⟩ : Addr) cs3.toList ∧
          (callP Try.prog 48 #[(Value.agg cs3)] w3 (fun v2 w5 =>
              dT v2 fun vs1 =>
              optP (vs1[0]?) fun v3 =>
              dI .i64 v3 fun x2 =>
              optP (vs1[1]?) fun v4 =>
              dI .i64 v4 fun x3 =>
              ∃ (cs4 : Array Value), cs4.size = 24 ∧ CellsAt w5 (⟨b1, 0, none⟩ : Addr) cs4.toList ∧
              (callP Try.prog 49 #[(Value.agg cs4)] w5 (fun v5 w7 =>
                  dM v5 fun r1 =>
                  mlenP w7 r1 fun x4 =>
                  cond (decide (x4 > x2)) (
                    R (.returned (Value.int .i64 9)) w7) (
                    R (.returned (Value.int .i64 0)) w7)) (fun ch w8 => R (.panicked ch) w8))) (fun ch w6 => R (.panicked ch) w6)))) (fun ch w4 => R (.panicked ch) w4)))
abbrev owner_Fit.C (a0 : Array Value) (a1_0 : Int) (a1_1 : Int) (w : World) (R : Ending → World → Prop) : Prop := Calls Try.prog 30 #[(Value.agg a0), (Value.agg #[(Value.int .i64 a1_0), (Value.int .i64 a1_1)])] w R
noncomputable def owner_Fit.code : Code := (Try.f30.body).getD .skip
noncomputable def owner_Fit.sk (R : Ending → World → Prop) : Sk := .leaf
def owner_Fit.owed (R : Ending → World → Prop) : Prop :=
  True
theorem owner_Fit.pays (R : Ending → World → Prop) : owner_Fit.owed R := trivial
set_option maxRecDepth 100000 in
theorem owner_Fit.ok {a0 : Array Value} {a1_0 : Int} {a1_1 : Int} {w : World} {R : Ending → World → Prop} (h : owner_Fit.main a0 a1_0 a1_1 w R) : owner_Fit.C a0 a1_0 a1_1 w R :=
  ev_ok cxok (c := cx) Try.func30 (code := owner_Fit.code) (by kernel_rfl) [.tmp 4] (by kernel_rfl) 24 (by kernel_rfl) (owner_Fit.sk R) (args := [(Value.agg a0), (Value.agg #[(Value.int .i64 a1_0), (Value.int .i64 a1_1)])]) (Nat.le_of_ble_eq_true rfl) (by kernel_rfl) (o := owner_Fit.owed R) (by kernel_rfl) (owner_Fit.pays R) h

/-! ### stopcock/leaf.payload: function 31 -/
def leaf_payload.b2 (t2 : Nat) (t3 : Nat) (t5p : Option Addr) (t5n : Nat) (t5c : Nat) (t12 : Array Value) (t13 : Int) (t27p : Option Addr) (t27n : Nat) (t27c : Nat) (t28 : Int) (t29 : Int) (w : World) (R : Ending → World → Prop) (C1 : Nat → Nat → Option Addr → Nat → Nat → Array Value → Int → World → Prop) (C2 : Nat → Nat → Option Addr → Nat → Nat → Array Value → Int → Option Addr → Nat → Nat → Int → Int → World → Prop) : Prop :=
  cond (decide (t29 < t28)) (
    chk (decide (0 ≤ t29)) (
      chk (decide (t29 < ((t27n : Nat) : Int))) (
        optP t27p fun d1 =>
        ∃ (r1 : Nat) (m1 : Nat), w.cell? (d1.add (t29.toNat * 1)) = some (Value.complex .f64 r1 m1) ∧
        (cond (!(fCmp .eql r1 13830554455654793216 && fCmp .eql m1 0)) (
            ∃ (x3 : Int), w.cell? (⟨t3, 1, none⟩ : Addr) = some (Value.int .i64 x3) ∧
            (callP Try.prog 50 #[(Value.complex .f64 r1 m1), (Value.int .i64 x3)] w (fun v2 w8 =>
                dT v2 fun vs1 =>
                optP (vs1[0]?) fun v3 =>
                dI .i64 v3 fun x4 =>
                optP (vs1[1]?) fun v4 =>
                dI .i64 v4 fun x5 =>
                newP w8 #[(Value.int .i64 (IntKind.i64.wrap (x4 + 1)))] 3 fun b5 w10 =>
                callP Try.prog 34 #[(Value.slice t5p t5n t5c), (Value.int .i64 2), (Value.slice (some ⟨b5, 0, none⟩) 1 1)] w10 (fun v5 w11 =>
                  dS v5 fun p3 n3 c3 =>
                  C2 t2 t3 p3 n3 c3 t12 t13 t27p t27n t27c t28 (IntKind.i64.wrap (t29 + 1)) w11) (fun ch w12 => R (.panicked ch) w12)) (fun ch w9 => R (.panicked ch) w9))) (
            newP w #[(Value.int .i64 0)] 3 fun b6 w13 =>
            callP Try.prog 34 #[(Value.slice t5p t5n t5c), (Value.int .i64 2), (Value.slice (some ⟨b6, 0, none⟩) 1 1)] w13 (fun v6 w14 =>
              dS v6 fun p4 n4 c4 =>
              C2 t2 t3 p4 n4 c4 t12 t13 t27p t27n t27c t28 (IntKind.i64.wrap (t29 + 1)) w14) (fun ch w15 => R (.panicked ch) w15)))))) (
    C1 t2 t3 t5p t5n t5c t12 (IntKind.i64.wrap (t13 + 1)) w)
def leaf_payload.l2 (t2 : Nat) (t3 : Nat) (t5p : Option Addr) (t5n : Nat) (t5c : Nat) (t12 : Array Value) (t13 : Int) (t27p : Option Addr) (t27n : Nat) (t27c : Nat) (t28 : Int) (t29 : Int) (w : World) (R : Ending → World → Prop) (C1 : Nat → Nat → Option Addr → Nat → Nat → Array Value → Int → World → Prop) : Prop :=
  ∃ (I : Nat → Nat → Option Addr → Nat → Nat → Array Value → Int → Option Addr → Nat → Nat → Int → Int → World → Prop) (m : Nat → Nat → Option Addr → Nat → Nat → Array Value → Int → Option Addr → Nat → Nat → Int → Int → World → Nat), I t2 t3 t5p t5n t5c t12 t13 t27p t27n t27c t28 t29 w ∧
  ∀ (t2 : Nat) (t3 : Nat) (t5p : Option Addr) (t5n : Nat) (t5c : Nat) (t12 : Array Value) (t13 : Int) (t27p : Option Addr) (t27n : Nat) (t27c : Nat) (t28 : Int) (t29 : Int) (w : World), I t2 t3 t5p t5n t5c t12 t13 t27p t27n t27c t28 t29 w →
  leaf_payload.b2 t2 t3 t5p t5n t5c t12 t13 t27p t27n t27c t28 t29 w R C1 (fun t2' t3' t5p' t5n' t5c' t12' t13' t27p' t27n' t27c' t28' t29' w' => I t2' t3' t5p' t5n' t5c' t12' t13' t27p' t27n' t27c' t28' t29' w' ∧ m t2' t3' t5p' t5n' t5c' t12' t13' t27p' t27n' t27c' t28' t29' w' < m t2 t3 t5p t5n t5c t12 t13 t27p t27n t27c t28 t29 w)
def leaf_payload.b1 (t2 : Nat) (t3 : Nat) (t5p : Option Addr) (t5n : Nat) (t5c : Nat) (t12 : Array Value) (t13 : Int) (w : World) (R : Ending → World → Prop) (C1 : Nat → Nat → Option Addr → Nat → Nat → Array Value → Int → World → Prop) : Prop :=
  cond (decide (t13 < 8)) (
    chk (decide (0 ≤ t13)) (
      chk (decide (t13 < (8 : Int))) (
        newP w #[(Value.int .i64 0), (Value.int .i64 0)] 24 fun b3 w3 =>
        chk (decide ((t12.extract (t13.toNat * 2) ((t13.toNat * 2) + 2)).size = 2)) (
          Wr w3 (⟨b3, 0, none⟩ : Addr) ((t12.extract (t13.toNat * 2) ((t13.toNat * 2) + 2)).toList) ∧ ∀ w4, w4 = w3.setCells (⟨b3, 0, none⟩ : Addr).block (⟨b3, 0, none⟩ : Addr).off ((t12.extract (t13.toNat * 2) ((t13.toNat * 2) + 2)).toList) →
          (∃ (x1 : Int), w4.cell? (⟨b3, 0, none⟩ : Addr) = some (Value.int .i64 x1) ∧
            (∃ (x2 : Int), w4.cell? (⟨b3, 1, none⟩ : Addr) = some (Value.int .i64 x2) ∧
              (newP w4 #[(Value.int .i64 x1), (Value.int .i64 x2)] 3 fun b4 w5 =>
                callP Try.prog 34 #[(Value.slice t5p t5n t5c), (Value.int .i64 1), (Value.slice (some ⟨b4, 0, none⟩) 2 2)] w5 (fun v1 w6 =>
                  dS v1 fun p1 n1 c1 =>
                  chk (decide (0 ≤ t13)) (
                    chk (decide (t13 < (8 : Int))) (
                      ∃ (p2 : Option Addr) (n2 : Nat) (c2 : Nat), w6.cell? ((⟨t2, 16, none⟩ : Addr).add (t13.toNat * 1)) = some (Value.slice p2 n2 c2) ∧
                      (leaf_payload.l2 t2 t3 p1 n1 c1 t12 t13 p2 n2 c2 ((n2 : Nat) : Int) 0 w6 R C1)))) (fun ch w7 => R (.panicked ch) w7)))))))) (
    R (.returned (Value.slice t5p t5n t5c)) w)
def leaf_payload.l1 (t2 : Nat) (t3 : Nat) (t5p : Option Addr) (t5n : Nat) (t5c : Nat) (t12 : Array Value) (t13 : Int) (w : World) (R : Ending → World → Prop) : Prop :=
  ∃ (I : Nat → Nat → Option Addr → Nat → Nat → Array Value → Int → World → Prop) (m : Nat → Nat → Option Addr → Nat → Nat → Array Value → Int → World → Nat), I t2 t3 t5p t5n t5c t12 t13 w ∧
  ∀ (t2 : Nat) (t3 : Nat) (t5p : Option Addr) (t5n : Nat) (t5c : Nat) (t12 : Array Value) (t13 : Int) (w : World), I t2 t3 t5p t5n t5c t12 t13 w →
  leaf_payload.b1 t2 t3 t5p t5n t5c t12 t13 w R (fun t2' t3' t5p' t5n' t5c' t12' t13' w' => I t2' t3' t5p' t5n' t5c' t12' t13' w' ∧ m t2' t3' t5p' t5n' t5c' t12' t13' w' < m t2 t3 t5p t5n t5c t12 t13 w)
def leaf_payload.main (a0 : Array Value) (a1_0 : Int) (a1_1 : Int) (w : World) (R : Ending → World → Prop) : Prop :=
  newP w a0 29 fun b1 w1 =>
  newP w1 #[(Value.int .i64 a1_0), (Value.int .i64 a1_1)] 31 fun b2 w2 =>
  ∃ (cs1 : Array Value), cs1.size = 16 ∧ CellsAt w2 (⟨b1, 0, none⟩ : Addr) cs1.toList ∧
  (leaf_payload.l1 b1 b2 none 0 0 cs1 0 w2 R)
abbrev leaf_payload.C (a0 : Array Value) (a1_0 : Int) (a1_1 : Int) (w : World) (R : Ending → World → Prop) : Prop := Calls Try.prog 31 #[(Value.agg a0), (Value.agg #[(Value.int .i64 a1_0), (Value.int .i64 a1_1)])] w R
noncomputable def leaf_payload.code : Code := (Try.f31.body).getD .skip
noncomputable def leaf_payload.sk (R : Ending → World → Prop) : Sk := (.seq .leaf (.seq .leaf (.seq (.seq .leaf (.block (.loop [(2, .blk), (3, .blk), (5, .slice), (12, .agg), (13, .int .i64)] (fun (t2 : Nat) (t3 : Nat) (t5p : Option Addr) (t5n : Nat) (t5c : Nat) (t12 : Array Value) (t13 : Int) (w : World) => leaf_payload.l1 t2 t3 t5p t5n t5c t12 t13 w R) (fun (C1 : Nat → Nat → Option Addr → Nat → Nat → Array Value → Int → World → Prop) => (.seq .leaf (.seq .leaf (.seq (.block (.seq .leaf (.seq .leaf (.seq .leaf (.block (.loop [(2, .blk), (3, .blk), (5, .slice), (12, .agg), (13, .int .i64), (27, .slice), (28, .int .i64), (29, .int .i64)] (fun (t2 : Nat) (t3 : Nat) (t5p : Option Addr) (t5n : Nat) (t5c : Nat) (t12 : Array Value) (t13 : Int) (t27p : Option Addr) (t27n : Nat) (t27c : Nat) (t28 : Int) (t29 : Int) (w : World) => leaf_payload.l2 t2 t3 t5p t5n t5c t12 t13 t27p t27n t27c t28 t29 w R C1) (fun (C2 : Nat → Nat → Option Addr → Nat → Nat → Array Value → Int → Option Addr → Nat → Nat → Int → Int → World → Prop) => .leaf))))))) .leaf))))))) .leaf)))
def leaf_payload.owed (R : Ending → World → Prop) : Prop :=
  (∀ (t2 : Nat) (t3 : Nat) (t5p : Option Addr) (t5n : Nat) (t5c : Nat) (t12 : Array Value) (t13 : Int) (w : World), leaf_payload.l1 t2 t3 t5p t5n t5c t12 t13 w R → leaf_payload.l1 t2 t3 t5p t5n t5c t12 t13 w R) ∧ (∀ (C1 : Nat → Nat → Option Addr → Nat → Nat → Array Value → Int → World → Prop), (∀ (t2 : Nat) (t3 : Nat) (t5p : Option Addr) (t5n : Nat) (t5c : Nat) (t12 : Array Value) (t13 : Int) (t27p : Option Addr) (t27n : Nat) (t27c : Nat) (t28 : Int) (t29 : Int) (w : World), leaf_payload.l2 t2 t3 t5p t5n t5c t12 t13 t27p t27n t27c t28 t29 w R C1 → leaf_payload.l2 t2 t3 t5p t5n t5c t12 t13 t27p t27n t27c t28 t29 w R C1) ∧ (∀ (C2 : Nat → Nat → Option Addr → Nat → Nat → Array Value → Int → Option Addr → Nat → Nat → Int → Int → World → Prop), True) ∧ True) ∧ True
theorem leaf_payload.pays (R : Ending → World → Prop) : leaf_payload.owed R := ⟨(fun _ _ _ _ _ _ _ _ h => h), (fun _ => ⟨(fun _ _ _ _ _ _ _ _ _ _ _ _ _ h => h), (fun _ => trivial), trivial⟩), trivial⟩
set_option maxRecDepth 100000 in
theorem leaf_payload.ok {a0 : Array Value} {a1_0 : Int} {a1_1 : Int} {w : World} {R : Ending → World → Prop} (h : leaf_payload.main a0 a1_0 a1_1 w R) : leaf_payload.C a0 a1_0 a1_1 w R :=
  ev_ok cxok (c := cx) Try.func31 (code := leaf_payload.code) (by kernel_rfl) [.tmp 4] (by kernel_rfl) 51 (by kernel_rfl) (leaf_payload.sk R) (args := [(Value.agg a0), (Value.agg #[(Value.int .i64 a1_0), (Value.int .i64 a1_1)])]) (Nat.le_of_ble_eq_true rfl) (by kernel_rfl) (o := leaf_payload.owed R) (by kernel_rfl) (leaf_payload.pays R) h

/-! ### slices.Chunk[[]byte,byte]: function 32 -/
def slices_Chunk_byte_byte.main (a0p : Option Addr) (a0n : Nat) (a0c : Nat) (a1 : Int) (w : World) (R : Ending → World → Prop) : Prop :=
  newP w #[(Value.slice a0p a0n a0c)] 38 fun b1 w1 =>
  newP w1 #[(Value.int .i64 a1)] 3 fun b2 w2 =>
  ∃ (x1 : Int), w2.cell? (⟨b2, 0, none⟩ : Addr) = some (Value.int .i64 x1) ∧
  (cond (decide (x1 < 1)) (
      R (.panicked [{ v := (Value.iface 9 (Value.string (⟨#[99, 97, 110, 110, 111, 116, 32, 98, 101, 32, 108, 101, 115, 115, 32, 116, 104, 97, 110, 32, 49]⟩ : ByteArray))), recovered := false }]) w2) (
      R (.returned (Value.func (.func 51) #[] #[(Value.pointer (some (⟨b1, 0, none⟩ : Addr))), (Value.pointer (some (⟨b2, 0, none⟩ : Addr)))])) w2))
abbrev slices_Chunk_byte_byte.C (a0p : Option Addr) (a0n : Nat) (a0c : Nat) (a1 : Int) (w : World) (R : Ending → World → Prop) : Prop := Calls Try.prog 32 #[(Value.slice a0p a0n a0c), (Value.int .i64 a1)] w R
noncomputable def slices_Chunk_byte_byte.code : Code := (Try.f32.body).getD .skip
noncomputable def slices_Chunk_byte_byte.sk (R : Ending → World → Prop) : Sk := .leaf
def slices_Chunk_byte_byte.owed (R : Ending → World → Prop) : Prop :=
  True
theorem slices_Chunk_byte_byte.pays (R : Ending → World → Prop) : slices_Chunk_byte_byte.owed R := trivial
set_option maxRecDepth 100000 in
theorem slices_Chunk_byte_byte.ok {a0p : Option Addr} {a0n : Nat} {a0c : Nat} {a1 : Int} {w : World} {R : Ending → World → Prop} (h : slices_Chunk_byte_byte.main a0p a0n a0c a1 w R) : slices_Chunk_byte_byte.C a0p a0n a0c a1 w R :=
  ev_ok cxok (c := cx) Try.func32 (code := slices_Chunk_byte_byte.code) (by kernel_rfl) [.tmp 4] (by kernel_rfl) 9 (by kernel_rfl) (slices_Chunk_byte_byte.sk R) (args := [(Value.slice a0p a0n a0c), (Value.int .i64 a1)]) (Nat.le_of_ble_eq_true rfl) (by kernel_rfl) (o := slices_Chunk_byte_byte.owed R) (by kernel_rfl) (slices_Chunk_byte_byte.pays R) h

/-! ### stopcock/leaf.sealed: function 33 -/
def leaf_sealed.main (a0p : Option Addr) (a0n : Nat) (a0c : Nat) (w : World) (R : Ending → World → Prop) : Prop :=
  callP Try.prog 25 #[(Value.slice a0p a0n a0c)] w (fun v1 w1 =>
    dT v1 fun vs1 =>
    optP (vs1[0]?) fun v2 =>
    dS v2 fun p1 n1 c1 =>
    optP (vs1[1]?) fun v3 =>
    dI .i64 v3 fun x1 =>
    R (.returned (Value.slice p1 n1 c1)) w1) (fun ch w2 => R (.panicked ch) w2)
abbrev leaf_sealed.C (a0p : Option Addr) (a0n : Nat) (a0c : Nat) (w : World) (R : Ending → World → Prop) : Prop := Calls Try.prog 33 #[(Value.slice a0p a0n a0c)] w R
noncomputable def leaf_sealed.code : Code := (Try.f33.body).getD .skip
noncomputable def leaf_sealed.sk (R : Ending → World → Prop) : Sk := .leaf
def leaf_sealed.owed (R : Ending → World → Prop) : Prop :=
  True
theorem leaf_sealed.pays (R : Ending → World → Prop) : leaf_sealed.owed R := trivial
set_option maxRecDepth 100000 in
theorem leaf_sealed.ok {a0p : Option Addr} {a0n : Nat} {a0c : Nat} {w : World} {R : Ending → World → Prop} (h : leaf_sealed.main a0p a0n a0c w R) : leaf_sealed.C a0p a0n a0c w R :=
  ev_ok cxok (c := cx) Try.func33 (code := leaf_sealed.code) (by kernel_rfl) [.tmp 2] (by kernel_rfl) 11 (by kernel_rfl) (leaf_sealed.sk R) (args := [(Value.slice a0p a0n a0c)]) (Nat.le_of_ble_eq_true rfl) (by kernel_rfl) (o := leaf_sealed.owed R) (by kernel_rfl) (leaf_sealed.pays R) h

end Go.Proofs.Ytokepljpieboiaa.G

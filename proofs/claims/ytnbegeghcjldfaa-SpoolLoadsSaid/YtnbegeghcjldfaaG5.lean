/- Statements of functions, and that their calls do what they say. Printed by wip/tool/dec.py. Conditions: none. -/
import Derived.Test.YtnbegeghcjldfaaG0
namespace Go.Proofs.Ytnbegeghcjldfaa.G
open Go.Dec
set_option linter.unusedVariables false

/-! ### stopcock/stopcockref01.part: function 46 -/
def stopcockref01_part.b1 (t0 : Nat) (t1 : Int) (t5 : Int) (w : World) (R : Ending → World → Prop) (C1 : Nat → Int → Int → World → Prop) : Prop :=
  cond (decide (t5 < t1)) (
    cond (fCmp .eql t0 (FloatKind.f64.nearest t5)) (
      R (.returned (Value.int .i64 t5)) w) (
      C1 t0 t1 (IntKind.i64.wrap (t5 + 1)) w)) (
    R (.returned (Value.int .i64 (-1))) w)
def stopcockref01_part.l1 (t0 : Nat) (t1 : Int) (t5 : Int) (w : World) (R : Ending → World → Prop) : Prop :=
  ∃ (I : Nat → Int → Int → World → Prop) (m : Nat → Int → Int → World → Nat), I t0 t1 t5 w ∧
  ∀ (t0 : Nat) (t1 : Int) (t5 : Int) (w : World), I t0 t1 t5 w →
  stopcockref01_part.b1 t0 t1 t5 w R (fun t0' t1' t5' w' => I t0' t1' t5' w' ∧ m t0' t1' t5' w' < m t0 t1 t5 w)
def stopcockref01_part.main (a0 : Nat) (a1 : Int) (w : World) (R : Ending → World → Prop) : Prop :=
  stopcockref01_part.l1 a0 a1 0 w R
abbrev stopcockref01_part.C (a0 : Nat) (a1 : Int) (w : World) (R : Ending → World → Prop) : Prop := Calls Try.prog 46 #[(Value.float .f64 a0), (Value.int .i64 a1)] w R
noncomputable def stopcockref01_part.code : Code := (Try.f46.body).getD .skip
noncomputable def stopcockref01_part.sk (R : Ending → World → Prop) : Sk := (.seq .leaf (.seq (.seq .leaf (.block (.loop [(0, .flt), (1, .int .i64), (5, .int .i64)] (fun (t0 : Nat) (t1 : Int) (t5 : Int) (w : World) => stopcockref01_part.l1 t0 t1 t5 w R) (fun (C1 : Nat → Int → Int → World → Prop) => .leaf)))) .leaf))
def stopcockref01_part.owed (R : Ending → World → Prop) : Prop :=
  (∀ (t0 : Nat) (t1 : Int) (t5 : Int) (w : World), stopcockref01_part.l1 t0 t1 t5 w R → stopcockref01_part.l1 t0 t1 t5 w R) ∧ (∀ (C1 : Nat → Int → Int → World → Prop), True) ∧ True
theorem stopcockref01_part.pays (R : Ending → World → Prop) : stopcockref01_part.owed R := ⟨(fun _ _ _ _ h => h), (fun _ => trivial), trivial⟩
set_option maxRecDepth 100000 in
theorem stopcockref01_part.ok {a0 : Nat} {a1 : Int} {w : World} {R : Ending → World → Prop} (h : stopcockref01_part.main a0 a1 w R) : stopcockref01_part.C a0 a1 w R :=
  ev_ok cxok (c := cx) Try.func46 (code := stopcockref01_part.code) (by kernel_rfl) [.tmp 4] (by kernel_rfl) 16 (by kernel_rfl) (stopcockref01_part.sk R) (args := [(Value.float .f64 a0), (Value.int .i64 a1)]) (Nat.le_of_ble_eq_true rfl) (by kernel_rfl) (o := stopcockref01_part.owed R) (by kernel_rfl) (stopcockref01_part.pays R) h

/-! ### stopcock/stopcockref03.More: function 47 -/
def stopcockref03_More.b2 (t1p : Option Addr) (t1n : Nat) (t1c : Nat) (t5 : Int) (t6 : Int) (t7 : Int) (w : World) (R : Ending → World → Prop) (C1 : Option Addr → Nat → Nat → Int → Int → World → Prop) (C2 : Option Addr → Nat → Nat → Int → Int → Int → World → Prop) : Prop :=
  cond (decide (t7 ≥ 0)) (
    chk (decide (0 ≤ t6)) (
      chk (decide (t6 < ((t1n : Nat) : Int))) (
        optP t1p fun d1 =>
        ∃ (x1 : Int), w.cell? (d1.add (t6.toNat * 1)) = some (Value.int .u8 x1) ∧
        (chk (decide (0 ≤ t7)) (
            cond ((IntKind.u32.wrap (BitVec.ofInt IntKind.u32.bits (Int.fdiv t5 (2 ^ (min 31 IntKind.u32.bits))) ^^^ BitVec.ofInt IntKind.u32.bits (IntKind.u32.wrap (BitVec.ofInt IntKind.u32.bits (Int.fdiv (IntKind.u32.wrap x1) (2 ^ (min t7.toNat IntKind.u32.bits))) &&& BitVec.ofInt IntKind.u32.bits 1).toNat)).toNat) == 1) (
              C2 t1p t1n t1c (IntKind.u32.wrap (BitVec.ofInt IntKind.u32.bits (IntKind.u32.wrap (t5 * 2)) ^^^ BitVec.ofInt IntKind.u32.bits 79764919).toNat) t6 (IntKind.i64.wrap (t7 - 1)) w) (
              C2 t1p t1n t1c (IntKind.u32.wrap (t5 * 2)) t6 (IntKind.i64.wrap (t7 - 1)) w)))))) (
    C1 t1p t1n t1c t5 (IntKind.i64.wrap (t6 + 1)) w)
def stopcockref03_More.l2 (t1p : Option Addr) (t1n : Nat) (t1c : Nat) (t5 : Int) (t6 : Int) (t7 : Int) (w : World) (R : Ending → World → Prop) (C1 : Option Addr → Nat → Nat → Int → Int → World → Prop) : Prop :=
  ∃ (I : Option Addr → Nat → Nat → Int → Int → Int → World → Prop) (m : Option Addr → Nat → Nat → Int → Int → Int → World → Nat), I t1p t1n t1c t5 t6 t7 w ∧
  ∀ (t1p : Option Addr) (t1n : Nat) (t1c : Nat) (t5 : Int) (t6 : Int) (t7 : Int) (w : World), I t1p t1n t1c t5 t6 t7 w →
  stopcockref03_More.b2 t1p t1n t1c t5 t6 t7 w R C1 (fun t1p' t1n' t1c' t5' t6' t7' w' => I t1p' t1n' t1c' t5' t6' t7' w' ∧ m t1p' t1n' t1c' t5' t6' t7' w' < m t1p t1n t1c t5 t6 t7 w)
def stopcockref03_More.b1 (t1p : Option Addr) (t1n : Nat) (t1c : Nat) (t5 : Int) (t6 : Int) (w : World) (R : Ending → World → Prop) (C1 : Option Addr → Nat → Nat → Int → Int → World → Prop) : Prop :=
  cond (decide (t6 < ((t1n : Nat) : Int))) (
    stopcockref03_More.l2 t1p t1n t1c t5 t6 7 w R C1) (
    R (.returned (Value.int .u32 (IntKind.u32.wrap (BitVec.ofInt IntKind.u32.bits t5 ^^^ BitVec.ofInt IntKind.u32.bits 4294967295).toNat))) w)
def stopcockref03_More.l1 (t1p : Option Addr) (t1n : Nat) (t1c : Nat) (t5 : Int) (t6 : Int) (w : World) (R : Ending → World → Prop) : Prop :=
  ∃ (I : Option Addr → Nat → Nat → Int → Int → World → Prop) (m : Option Addr → Nat → Nat → Int → Int → World → Nat), I t1p t1n t1c t5 t6 w ∧
  ∀ (t1p : Option Addr) (t1n : Nat) (t1c : Nat) (t5 : Int) (t6 : Int) (w : World), I t1p t1n t1c t5 t6 w →
  stopcockref03_More.b1 t1p t1n t1c t5 t6 w R (fun t1p' t1n' t1c' t5' t6' w' => I t1p' t1n' t1c' t5' t6' w' ∧ m t1p' t1n' t1c' t5' t6' w' < m t1p t1n t1c t5 t6 w)
def stopcockref03_More.main (a0 : Int) (a1p : Option Addr) (a1n : Nat) (a1c : Nat) (w : World) (R : Ending → World → Prop) : Prop :=
  stopcockref03_More.l1 a1p a1n a1c (IntKind.u32.wrap (BitVec.ofInt IntKind.u32.bits a0 ^^^ BitVec.ofInt IntKind.u32.bits 4294967295).toNat) 0 w R
abbrev stopcockref03_More.C (a0 : Int) (a1p : Option Addr) (a1n : Nat) (a1c : Nat) (w : World) (R : Ending → World → Prop) : Prop := Calls Try.prog 47 #[(Value.int .u32 a0), (Value.slice a1p a1n a1c)] w R
noncomputable def stopcockref03_More.code : Code := (Try.f47.body).getD .skip
noncomputable def stopcockref03_More.sk (R : Ending → World → Prop) : Sk := (.seq .leaf (.seq .leaf (.seq (.seq .leaf (.block (.loop [(1, .slice), (5, .int .u32), (6, .int .i64)] (fun (t1p : Option Addr) (t1n : Nat) (t1c : Nat) (t5 : Int) (t6 : Int) (w : World) => stopcockref03_More.l1 t1p t1n t1c t5 t6 w R) (fun (C1 : Option Addr → Nat → Nat → Int → Int → World → Prop) => (.seq .leaf (.seq (.block (.seq .leaf (.block (.loop [(1, .slice), (5, .int .u32), (6, .int .i64), (7, .int .i64)] (fun (t1p : Option Addr) (t1n : Nat) (t1c : Nat) (t5 : Int) (t6 : Int) (t7 : Int) (w : World) => stopcockref03_More.l2 t1p t1n t1c t5 t6 t7 w R C1) (fun (C2 : Option Addr → Nat → Nat → Int → Int → Int → World → Prop) => .leaf))))) .leaf)))))) .leaf)))
def stopcockref03_More.owed (R : Ending → World → Prop) : Prop :=
  (∀ (t1p : Option Addr) (t1n : Nat) (t1c : Nat) (t5 : Int) (t6 : Int) (w : World), stopcockref03_More.l1 t1p t1n t1c t5 t6 w R → stopcockref03_More.l1 t1p t1n t1c t5 t6 w R) ∧ (∀ (C1 : Option Addr → Nat → Nat → Int → Int → World → Prop), (∀ (t1p : Option Addr) (t1n : Nat) (t1c : Nat) (t5 : Int) (t6 : Int) (t7 : Int) (w : World), stopcockref03_More.l2 t1p t1n t1c t5 t6 t7 w R C1 → stopcockref03_More.l2 t1p t1n t1c t5 t6 t7 w R C1) ∧ (∀ (C2 : Option Addr → Nat → Nat → Int → Int → Int → World → Prop), True) ∧ True) ∧ True
theorem stopcockref03_More.pays (R : Ending → World → Prop) : stopcockref03_More.owed R := ⟨(fun _ _ _ _ _ _ h => h), (fun _ => ⟨(fun _ _ _ _ _ _ _ h => h), (fun _ => trivial), trivial⟩), trivial⟩
set_option maxRecDepth 100000 in
theorem stopcockref03_More.ok {a0 : Int} {a1p : Option Addr} {a1n : Nat} {a1c : Nat} {w : World} {R : Ending → World → Prop} (h : stopcockref03_More.main a0 a1p a1n a1c w R) : stopcockref03_More.C a0 a1p a1n a1c w R :=
  ev_ok cxok (c := cx) Try.func47 (code := stopcockref03_More.code) (by kernel_rfl) [.tmp 4] (by kernel_rfl) 40 (by kernel_rfl) (stopcockref03_More.sk R) (args := [(Value.int .u32 a0), (Value.slice a1p a1n a1c)]) (Nat.le_of_ble_eq_true rfl) (by kernel_rfl) (o := stopcockref03_More.owed R) (by kernel_rfl) (stopcockref03_More.pays R) h

/-! ### slices.Chunk[[]stopcock/api.Delta,stopcock/api.Delta]$1: function 41 -/
def api_Delta_1_y.b1 (t0 : Nat) (t1 : Nat) (t2 : Nat) (t4 : Int) (w : World) (R : Ending → World → Prop) (C1 : Nat → Nat → Nat → Int → World → Prop) : Prop :=
  ∃ (p1 : Option Addr) (n1 : Nat) (c1 : Nat), w.cell? (⟨t1, 0, none⟩ : Addr) = some (Value.slice p1 n1 c1) ∧
  (cond (decide (t4 < ((n1 : Nat) : Int))) (
      ∃ (x1 : Int), w.drew.cell? (⟨t2, 0, none⟩ : Addr) = some (Value.int .i64 x1) ∧
      (∃ (p2 : Option Addr) (n2 : Nat) (c2 : Nat), w.drew.cell? (⟨t1, 0, none⟩ : Addr) = some (Value.slice p2 n2 c2) ∧
        (chk (decide (0 ≤ t4)) (
            chk (decide (t4 ≤ ((n2 : Nat) : Int))) (
              ∃ (p3 : Option Addr) (n3 : Nat) (c3 : Nat), w.drew.cell? (⟨t1, 0, none⟩ : Addr) = some (Value.slice p3 n3 c3) ∧
              (chk (decide (0 ≤ (IntKind.i64.wrap (t4 + (min2 x1 (((n2 - t4.toNat) : Nat) : Int)))))) (
                  chk (decide ((IntKind.i64.wrap (t4 + (min2 x1 (((n2 - t4.toNat) : Nat) : Int)))) ≤ ((c3 : Nat) : Int))) (
                    chk (decide (0 ≤ (IntKind.i64.wrap (t4 + (min2 x1 (((n2 - t4.toNat) : Nat) : Int)))))) (
                      chk (decide ((IntKind.i64.wrap (t4 + (min2 x1 (((n2 - t4.toNat) : Nat) : Int)))) ≤ (((IntKind.i64.wrap (t4 + (min2 x1 (((n2 - t4.toNat) : Nat) : Int)))).toNat : Nat) : Int))) (
                        chk (decide (0 ≤ t4)) (
                          chk (decide (t4 ≤ (((IntKind.i64.wrap (t4 + (min2 x1 (((n2 - t4.toNat) : Nat) : Int)))).toNat : Nat) : Int))) (
                          yldP Try.prog t0 #[(Value.slice (slA p3 ((IntKind.i64.wrap (t4 + (min2 x1 (((n2 - t4.toNat) : Nat) : Int)))).toNat) t4.toNat 5) ((IntKind.i64.wrap (t4 + (min2 x1 (((n2 - t4.toNat) : Nat) : Int)))).toNat - t4.toNat) ((IntKind.i64.wrap (t4 + (min2 x1 (((n2 - t4.toNat) : Nat) : Int)))).toNat - t4.toNat))] w.drew fun v1 w1 =>
                          dB v1 fun b1 =>
                          cond (!b1) (
                          R (.returned (Value.tuple #[])) w1) (
                          ∃ (x2 : Int), w1.cell? (⟨t2, 0, none⟩ : Addr) = some (Value.int .i64 x2) ∧
                          (C1 t0 t1 t2 (IntKind.i64.wrap (t4 + x2)) w1)))))))))))))) (
      R (.returned (Value.tuple #[])) w))
def api_Delta_1_y.l1 (t0 : Nat) (t1 : Nat) (t2 : Nat) (t4 : Int) (w : World) (R : Ending → World → Prop) : Prop :=
  ∃ (I : Nat → Nat → Nat → Int → World → Prop) (m : Nat → Nat → Nat → Int → World → Nat), I t0 t1 t2 t4 w ∧
  ∀ (t0 : Nat) (t1 : Nat) (t2 : Nat) (t4 : Int) (w : World), I t0 t1 t2 t4 w →
  api_Delta_1_y.b1 t0 t1 t2 t4 w R (fun t0' t1' t2' t4' w' => I t0' t1' t2' t4' w' ∧ m t0' t1' t2' t4' w' < m t0 t1 t2 t4 w)
def api_Delta_1_y.main (l : Nat) (q0 : Nat) (q1 : Nat) (w : World) (R : Ending → World → Prop) : Prop :=
  api_Delta_1_y.l1 l q0 q1 0 w R
abbrev api_Delta_1_y.C (l : Nat) (q0 : Nat) (q1 : Nat) (w : World) (R : Ending → World → Prop) : Prop := CallsIn Fence.wide 0 Try.prog 41 #[(Value.func (.yield l) #[] #[]), (Value.pointer (some (⟨q0, 0, none⟩ : Addr))), (Value.pointer (some (⟨q1, 0, none⟩ : Addr)))] w R
noncomputable def api_Delta_1_y.code : Code := (Try.f41.body).getD .skip
noncomputable def api_Delta_1_y.sk (R : Ending → World → Prop) : Sk := (.seq .leaf (.block (.loop [(0, .yld), (1, .blk), (2, .blk), (4, .int .i64)] (fun (t0 : Nat) (t1 : Nat) (t2 : Nat) (t4 : Int) (w : World) => api_Delta_1_y.l1 t0 t1 t2 t4 w R) (fun (C1 : Nat → Nat → Nat → Int → World → Prop) => .leaf))))
def api_Delta_1_y.owed (R : Ending → World → Prop) : Prop :=
  (∀ (t0 : Nat) (t1 : Nat) (t2 : Nat) (t4 : Int) (w : World), api_Delta_1_y.l1 t0 t1 t2 t4 w R → api_Delta_1_y.l1 t0 t1 t2 t4 w R) ∧ (∀ (C1 : Nat → Nat → Nat → Int → World → Prop), True) ∧ True
theorem api_Delta_1_y.pays (R : Ending → World → Prop) : api_Delta_1_y.owed R := ⟨(fun _ _ _ _ _ h => h), (fun _ => trivial), trivial⟩
set_option maxRecDepth 100000 in
theorem api_Delta_1_y.ok {l : Nat} {q0 : Nat} {q1 : Nat} {w : World} {R : Ending → World → Prop} (h : api_Delta_1_y.main l q0 q1 w R) : api_Delta_1_y.C l q0 q1 w R :=
  evX_ok cxok (c := cx) Try.func41 (code := api_Delta_1_y.code) (by kernel_rfl) [] (by kernel_rfl) 31 (by kernel_rfl) (api_Delta_1_y.sk R) (args := [(Value.func (.yield l) #[] #[]), (Value.pointer (some (⟨q0, 0, none⟩ : Addr))), (Value.pointer (some (⟨q1, 0, none⟩ : Addr)))]) (Nat.le_of_ble_eq_true rfl) (by kernel_rfl) (o := api_Delta_1_y.owed R) (by kernel_rfl) (api_Delta_1_y.pays R) h

/-! ### slices.IndexFunc[[]stopcock/api.Write,stopcock/api.Write]: function 30 -/
def api_Write_f17.b1 (t0p : Option Addr) (t0n : Nat) (t0c : Nat) (t7 : Int) (t8 : Int) (w : World) (R : Ending → World → Prop) (C1 : Option Addr → Nat → Nat → Int → Int → World → Prop) : Prop :=
  cond (decide (t8 < t7)) (
    chk (decide (0 ≤ t8)) (
      chk (decide (t8 < ((t0n : Nat) : Int))) (
        optP t0p fun d1 =>
        ∃ (cs1 : Array Value), cs1.size = 2 ∧ CellsAt w (d1.add (t8.toNat * 2)) cs1.toList ∧
        (callP Try.prog 17 #[(Value.agg cs1)] w (fun v1 w1 =>
            dB v1 fun b1 =>
            cond b1 (
              R (.returned (Value.int .i64 t8)) w1) (
              C1 t0p t0n t0c t7 (IntKind.i64.wrap (t8 + 1)) w1)) (fun ch w2 => R (.panicked ch) w2))))) (
    R (.returned (Value.int .i64 (-1))) w)
def api_Write_f17.l1 (t0p : Option Addr) (t0n : Nat) (t0c : Nat) (t7 : Int) (t8 : Int) (w : World) (R : Ending → World → Prop) : Prop :=
  ∃ (I : Option Addr → Nat → Nat → Int → Int → World → Prop) (m : Option Addr → Nat → Nat → Int → Int → World → Nat), I t0p t0n t0c t7 t8 w ∧
  ∀ (t0p : Option Addr) (t0n : Nat) (t0c : Nat) (t7 : Int) (t8 : Int) (w : World), I t0p t0n t0c t7 t8 w →
  api_Write_f17.b1 t0p t0n t0c t7 t8 w R (fun t0p' t0n' t0c' t7' t8' w' => I t0p' t0n' t0c' t7' t8' w' ∧ m t0p' t0n' t0c' t7' t8' w' < m t0p t0n t0c t7 t8 w)
def api_Write_f17.main (a0p : Option Addr) (a0n : Nat) (a0c : Nat) (w : World) (R : Ending → World → Prop) : Prop :=
  api_Write_f17.l1 a0p a0n a0c ((a0n : Nat) : Int) 0 w R
abbrev api_Write_f17.C (a0p : Option Addr) (a0n : Nat) (a0c : Nat) (w : World) (R : Ending → World → Prop) : Prop := Calls Try.prog 30 #[(Value.slice a0p a0n a0c), (Value.func (.func 17) #[] #[])] w R
noncomputable def api_Write_f17.code : Code := (Try.f30.body).getD .skip
noncomputable def api_Write_f17.sk (R : Ending → World → Prop) : Sk := (.seq .leaf (.seq (.seq .leaf (.block (.loop [(0, .slice), (1, .fn0 17), (7, .int .i64), (8, .int .i64)] (fun (t0p : Option Addr) (t0n : Nat) (t0c : Nat) (t7 : Int) (t8 : Int) (w : World) => api_Write_f17.l1 t0p t0n t0c t7 t8 w R) (fun (C1 : Option Addr → Nat → Nat → Int → Int → World → Prop) => .leaf)))) .leaf))
def api_Write_f17.owed (R : Ending → World → Prop) : Prop :=
  (∀ (t0p : Option Addr) (t0n : Nat) (t0c : Nat) (t7 : Int) (t8 : Int) (w : World), api_Write_f17.l1 t0p t0n t0c t7 t8 w R → api_Write_f17.l1 t0p t0n t0c t7 t8 w R) ∧ (∀ (C1 : Option Addr → Nat → Nat → Int → Int → World → Prop), True) ∧ True
theorem api_Write_f17.pays (R : Ending → World → Prop) : api_Write_f17.owed R := ⟨(fun _ _ _ _ _ _ h => h), (fun _ => trivial), trivial⟩
set_option maxRecDepth 100000 in
theorem api_Write_f17.ok {a0p : Option Addr} {a0n : Nat} {a0c : Nat} {w : World} {R : Ending → World → Prop} (h : api_Write_f17.main a0p a0n a0c w R) : api_Write_f17.C a0p a0n a0c w R :=
  ev_ok cxok (c := cx) Try.func30 (code := api_Write_f17.code) (by kernel_rfl) [.tmp 4] (by kernel_rfl) 19 (by kernel_rfl) (api_Write_f17.sk R) (args := [(Value.slice a0p a0n a0c), (Value.func (.func 17) #[] #[])]) (Nat.le_of_ble_eq_true rfl) (by kernel_rfl) (o := api_Write_f17.owed R) (by kernel_rfl) (api_Write_f17.pays R) h

/-! ### slices.IndexFunc[[]stopcock/api.Write,stopcock/api.Write]: function 30 -/
def api_Write_f18.b1 (t0p : Option Addr) (t0n : Nat) (t0c : Nat) (t1 : Nat) (t7 : Int) (t8 : Int) (w : World) (R : Ending → World → Prop) (C1 : Option Addr → Nat → Nat → Nat → Int → Int → World → Prop) : Prop :=
  cond (decide (t8 < t7)) (
    chk (decide (0 ≤ t8)) (
      chk (decide (t8 < ((t0n : Nat) : Int))) (
        optP t0p fun d1 =>
        ∃ (cs1 : Array Value), cs1.size = 2 ∧ CellsAt w (d1.add (t8.toNat * 2)) cs1.toList ∧
        (callP Try.prog 18 #[(Value.agg cs1), (Value.pointer (some (⟨t1, 0, none⟩ : Addr)))] w (fun v1 w1 =>
            dB v1 fun b1 =>
            cond b1 (
              R (.returned (Value.int .i64 t8)) w1) (
              C1 t0p t0n t0c t1 t7 (IntKind.i64.wrap (t8 + 1)) w1)) (fun ch w2 => R (.panicked ch) w2))))) (
    R (.returned (Value.int .i64 (-1))) w)
def api_Write_f18.l1 (t0p : Option Addr) (t0n : Nat) (t0c : Nat) (t1 : Nat) (t7 : Int) (t8 : Int) (w : World) (R : Ending → World → Prop) : Prop :=
  ∃ (I : Option Addr → Nat → Nat → Nat → Int → Int → World → Prop) (m : Option Addr → Nat → Nat → Nat → Int → Int → World → Nat), I t0p t0n t0c t1 t7 t8 w ∧
  ∀ (t0p : Option Addr) (t0n : Nat) (t0c : Nat) (t1 : Nat) (t7 : Int) (t8 : Int) (w : World), I t0p t0n t0c t1 t7 t8 w →
  api_Write_f18.b1 t0p t0n t0c t1 t7 t8 w R (fun t0p' t0n' t0c' t1' t7' t8' w' => I t0p' t0n' t0c' t1' t7' t8' w' ∧ m t0p' t0n' t0c' t1' t7' t8' w' < m t0p t0n t0c t1 t7 t8 w)
def api_Write_f18.main (a0p : Option Addr) (a0n : Nat) (a0c : Nat) (a1q0 : Nat) (w : World) (R : Ending → World → Prop) : Prop :=
  api_Write_f18.l1 a0p a0n a0c a1q0 ((a0n : Nat) : Int) 0 w R
abbrev api_Write_f18.C (a0p : Option Addr) (a0n : Nat) (a0c : Nat) (a1q0 : Nat) (w : World) (R : Ending → World → Prop) : Prop := Calls Try.prog 30 #[(Value.slice a0p a0n a0c), (Value.func (.func 18) #[] #[(Value.pointer (some (⟨a1q0, 0, none⟩ : Addr)))])] w R
noncomputable def api_Write_f18.code : Code := (Try.f30.body).getD .skip
noncomputable def api_Write_f18.sk (R : Ending → World → Prop) : Sk := (.seq .leaf (.seq (.seq .leaf (.block (.loop [(0, .slice), (1, .fn1 18), (7, .int .i64), (8, .int .i64)] (fun (t0p : Option Addr) (t0n : Nat) (t0c : Nat) (t1 : Nat) (t7 : Int) (t8 : Int) (w : World) => api_Write_f18.l1 t0p t0n t0c t1 t7 t8 w R) (fun (C1 : Option Addr → Nat → Nat → Nat → Int → Int → World → Prop) => .leaf)))) .leaf))
def api_Write_f18.owed (R : Ending → World → Prop) : Prop :=
  (∀ (t0p : Option Addr) (t0n : Nat) (t0c : Nat) (t1 : Nat) (t7 : Int) (t8 : Int) (w : World), api_Write_f18.l1 t0p t0n t0c t1 t7 t8 w R → api_Write_f18.l1 t0p t0n t0c t1 t7 t8 w R) ∧ (∀ (C1 : Option Addr → Nat → Nat → Nat → Int → Int → World → Prop), True) ∧ True
theorem api_Write_f18.pays (R : Ending → World → Prop) : api_Write_f18.owed R := ⟨(fun _ _ _ _ _ _ _ h => h), (fun _ => trivial), trivial⟩
set_option maxRecDepth 100000 in
theorem api_Write_f18.ok {a0p : Option Addr} {a0n : Nat} {a0c : Nat} {a1q0 : Nat} {w : World} {R : Ending → World → Prop} (h : api_Write_f18.main a0p a0n a0c a1q0 w R) : api_Write_f18.C a0p a0n a0c a1q0 w R :=
  ev_ok cxok (c := cx) Try.func30 (code := api_Write_f18.code) (by kernel_rfl) [.tmp 4] (by kernel_rfl) 19 (by kernel_rfl) (api_Write_f18.sk R) (args := [(Value.slice a0p a0n a0c), (Value.func (.func 18) #[] #[(Value.pointer (some (⟨a1q0, 0, none⟩ : Addr)))])]) (Nat.le_of_ble_eq_true rfl) (by kernel_rfl) (o := api_Write_f18.owed R) (by kernel_rfl) (api_Write_f18.pays R) h

end Go.Proofs.Ytnbegeghcjldfaa.G

/- Statements of functions, and that their calls do what they say. Printed by wip/tool/dec.py. Conditions: none. -/
import Derived.Test.YtnbegeghcjldfaaG0
namespace Go.Proofs.Ytnbegeghcjldfaa.G
open Go.Dec
set_option linter.unusedVariables false

/-! ### stopcock/stopcocklaw15.same: function 12 -/
def stopcocklaw15_same.b1 (t0p : Option Addr) (t0n : Nat) (t0c : Nat) (t1p : Option Addr) (t1n : Nat) (t1c : Nat) (t5 : Int) (w : World) (R : Ending → World → Prop) (C1 : Option Addr → Nat → Nat → Option Addr → Nat → Nat → Int → World → Prop) : Prop :=
  cond (decide (t5 < ((t0n : Nat) : Int))) (
    chk (decide (0 ≤ t5)) (
      chk (decide (t5 < ((t0n : Nat) : Int))) (
        optP t0p fun d1 =>
        ∃ (cs1 : Array Value), cs1.size = 5 ∧ CellsAt w (d1.add (t5.toNat * 5)) cs1.toList ∧
        (chk (decide (0 ≤ t5)) (
            chk (decide (t5 < ((t1n : Nat) : Int))) (
              optP t1p fun d2 =>
              ∃ (cs2 : Array Value), cs2.size = 5 ∧ CellsAt w (d2.add (t5.toNat * 5)) cs2.toList ∧
              (∃ (b1 : Bool), eqRun Try.prog .neq 52 (.tmp 20) (.tmp 24) (Value.agg cs1) (Value.agg cs2) b1 ∧
                (∀ k1 : Nat,
                  cond b1 (
                    R (.returned (Value.bool false)) (w.drewN k1)) (
                    C1 t0p t0n t0c t1p t1n t1c (IntKind.i64.wrap (t5 + 1)) (w.drewN k1)))))))))) (
    R (.returned (Value.bool true)) w)
def stopcocklaw15_same.l1 (t0p : Option Addr) (t0n : Nat) (t0c : Nat) (t1p : Option Addr) (t1n : Nat) (t1c : Nat) (t5 : Int) (w : World) (R : Ending → World → Prop) : Prop :=
  ∃ (I : Option Addr → Nat → Nat → Option Addr → Nat → Nat → Int → World → Prop) (m : Option Addr → Nat → Nat → Option Addr → Nat → Nat → Int → World → Nat), I t0p t0n t0c t1p t1n t1c t5 w ∧
  ∀ (t0p : Option Addr) (t0n : Nat) (t0c : Nat) (t1p : Option Addr) (t1n : Nat) (t1c : Nat) (t5 : Int) (w : World), I t0p t0n t0c t1p t1n t1c t5 w →
  stopcocklaw15_same.b1 t0p t0n t0c t1p t1n t1c t5 w R (fun t0p' t0n' t0c' t1p' t1n' t1c' t5' w' => I t0p' t0n' t0c' t1p' t1n' t1c' t5' w' ∧ m t0p' t0n' t0c' t1p' t1n' t1c' t5' w' < m t0p t0n t0c t1p t1n t1c t5 w)
def stopcocklaw15_same.main (a0p : Option Addr) (a0n : Nat) (a0c : Nat) (a1p : Option Addr) (a1n : Nat) (a1c : Nat) (w : World) (R : Ending → World → Prop) : Prop :=
  cond (((a0n : Nat) : Int) != ((a1n : Nat) : Int)) (
    R (.returned (Value.bool false)) w) (
    stopcocklaw15_same.l1 a0p a0n a0c a1p a1n a1c 0 w R)
abbrev stopcocklaw15_same.C (a0p : Option Addr) (a0n : Nat) (a0c : Nat) (a1p : Option Addr) (a1n : Nat) (a1c : Nat) (w : World) (R : Ending → World → Prop) : Prop := Calls Try.prog 12 #[(Value.slice a0p a0n a0c), (Value.slice a1p a1n a1c)] w R
noncomputable def stopcocklaw15_same.code : Code := (Try.f12.body).getD .skip
noncomputable def stopcocklaw15_same.sk (R : Ending → World → Prop) : Sk := (.seq .leaf (.seq .leaf (.seq (.seq .leaf (.block (.loop [(0, .slice), (1, .slice), (5, .int .i64)] (fun (t0p : Option Addr) (t0n : Nat) (t0c : Nat) (t1p : Option Addr) (t1n : Nat) (t1c : Nat) (t5 : Int) (w : World) => stopcocklaw15_same.l1 t0p t0n t0c t1p t1n t1c t5 w R) (fun (C1 : Option Addr → Nat → Nat → Option Addr → Nat → Nat → Int → World → Prop) => .leaf)))) .leaf)))
def stopcocklaw15_same.owed (R : Ending → World → Prop) : Prop :=
  (∀ (t0p : Option Addr) (t0n : Nat) (t0c : Nat) (t1p : Option Addr) (t1n : Nat) (t1c : Nat) (t5 : Int) (w : World), stopcocklaw15_same.l1 t0p t0n t0c t1p t1n t1c t5 w R → stopcocklaw15_same.l1 t0p t0n t0c t1p t1n t1c t5 w R) ∧ (∀ (C1 : Option Addr → Nat → Nat → Option Addr → Nat → Nat → Int → World → Prop), True) ∧ True
theorem stopcocklaw15_same.pays (R : Ending → World → Prop) : stopcocklaw15_same.owed R := ⟨(fun _ _ _ _ _ _ _ _ h => h), (fun _ => trivial), trivial⟩
set_option maxRecDepth 100000 in
theorem stopcocklaw15_same.ok {a0p : Option Addr} {a0n : Nat} {a0c : Nat} {a1p : Option Addr} {a1n : Nat} {a1c : Nat} {w : World} {R : Ending → World → Prop} (h : stopcocklaw15_same.main a0p a0n a0c a1p a1n a1c w R) : stopcocklaw15_same.C a0p a0n a0c a1p a1n a1c w R :=
  ev_ok cxok (c := cx) Try.func12 (code := stopcocklaw15_same.code) (by kernel_rfl) [.tmp 4] (by kernel_rfl) 26 (by kernel_rfl) (stopcocklaw15_same.sk R) (args := [(Value.slice a0p a0n a0c), (Value.slice a1p a1n a1c)]) (Nat.le_of_ble_eq_true rfl) (by kernel_rfl) (o := stopcocklaw15_same.owed R) (by kernel_rfl) (stopcocklaw15_same.pays R) h

/-! ### stopcock/stopcockref03.Open: function 22 -/
def stopcockref03_Open.main (a0p : Option Addr) (a0n : Nat) (a0c : Nat) (w : World) (R : Ending → World → Prop) : Prop :=
  cond (((a0n : Nat) : Int) != 64) (
    R (.returned (Value.tuple #[(Value.slice none 0 0), (Value.int .i64 6)])) w) (
    chk (decide (60 ≤ ((a0c : Nat) : Int))) (
      callP Try.prog 26 #[(Value.slice (slA a0p a0c 0 1) 60 a0c)] w (fun v1 w1 =>
        dT v1 fun vs1 =>
        optP (vs1[0]?) fun v2 =>
        dS v2 fun p1 n1 c1 =>
        optP (vs1[1]?) fun v3 =>
        dI .i64 v3 fun x1 =>
        ∃ (ns1 : List Int), ns1.length = n1 ∧ CellsO w1 p1 (ns1.map (Value.int .u8)) ∧
        (∃ (ns2 : List Int), ns2.length = a0n ∧ CellsO w1 a0p (ns2.map (Value.int .u8)) ∧
          (cond (!((strOf ns1).toList == (strOf ns2).toList)) (
              R (.returned (Value.tuple #[(Value.slice none 0 0), (Value.int .i64 2)])) w1) (
              newP w1 #[] 5 fun b1 w3 =>
              chk (decide (60 ≤ ((a0c : Nat) : Int))) (
                appP w3 (some ⟨b1, 0, none⟩) 0 0 60 (CellsO w3 (slA a0p a0c 0 1)) 5 1 1 #[(Value.int .u8 0)] fun p2 c2 w4 =>
                R (.returned (Value.tuple #[(Value.slice p2 (0 + 60) c2), (Value.int .i64 0)])) w4))))) (fun ch w2 => R (.panicked ch) w2)))
abbrev stopcockref03_Open.C (a0p : Option Addr) (a0n : Nat) (a0c : Nat) (w : World) (R : Ending → World → Prop) : Prop := Calls Try.prog 22 #[(Value.slice a0p a0n a0c)] w R
noncomputable def stopcockref03_Open.code : Code := (Try.f22.body).getD .skip
noncomputable def stopcockref03_Open.sk (R : Ending → World → Prop) : Sk := .leaf
def stopcockref03_Open.owed (R : Ending → World → Prop) : Prop :=
  True
theorem stopcockref03_Open.pays (R : Ending → World → Prop) : stopcockref03_Open.owed R := trivial
set_option maxRecDepth 100000 in
theorem stopcockref03_Open.ok {a0p : Option Addr} {a0n : Nat} {a0c : Nat} {w : World} {R : Ending → World → Prop} (h : stopcockref03_Open.main a0p a0n a0c w R) : stopcockref03_Open.C a0p a0n a0c w R :=
  ev_ok cxok (c := cx) Try.func22 (code := stopcockref03_Open.code) (by kernel_rfl) [.tmp 2, .tmp 3] (by kernel_rfl) 24 (by kernel_rfl) (stopcockref03_Open.sk R) (args := [(Value.slice a0p a0n a0c)]) (Nat.le_of_ble_eq_true rfl) (by kernel_rfl) (o := stopcockref03_Open.owed R) (by kernel_rfl) (stopcockref03_Open.pays R) h

/-! ### stopcock/stopcockref07.Decode: function 23 -/
def stopcockref07_Decode.k1 (t2 : Nat) (t4 : Nat) (w : World) (R : Ending → World → Prop) : Prop :=
  ∃ (cs2 : Array Value), cs2.size = 5 ∧ CellsAt w (⟨t4, 0, none⟩ : Addr) cs2.toList ∧
  (callP Try.prog 35 #[(Value.agg cs2)] w (fun v3 w11 =>
      dI .i64 v3 fun x7 =>
      cond (x7 != 0) (
        Wr w11 (⟨t2, 0, none⟩ : Addr) [(Value.int .i64 0), (Value.int .i64 0), (Value.int .i64 0), (Value.int .i64 0), (Value.complex .f64 0 0)] ∧ ∀ w13, w13 = w11.setCells (⟨t2, 0, none⟩ : Addr).block (⟨t2, 0, none⟩ : Addr).off [(Value.int .i64 0), (Value.int .i64 0), (Value.int .i64 0), (Value.int .i64 0), (Value.complex .f64 0 0)] →
        (∃ (cs3 : Array Value), cs3.size = 5 ∧ CellsAt w13 (⟨t2, 0, none⟩ : Addr) cs3.toList ∧
          (R (.returned (Value.tuple #[(Value.agg cs3), (Value.int .i64 2)])) w13))) (
        ∃ (cs4 : Array Value), cs4.size = 5 ∧ CellsAt w11 (⟨t4, 0, none⟩ : Addr) cs4.toList ∧
        (chk (decide (cs4.size = 5)) (
            Wr w11 (⟨t2, 0, none⟩ : Addr) cs4.toList ∧ ∀ w14, w14 = w11.setCells (⟨t2, 0, none⟩ : Addr).block (⟨t2, 0, none⟩ : Addr).off cs4.toList →
            (∃ (cs5 : Array Value), cs5.size = 5 ∧ CellsAt w14 (⟨t2, 0, none⟩ : Addr) cs5.toList ∧
              (R (.returned (Value.tuple #[(Value.agg cs5), (Value.int .i64 0)])) w14)))))) (fun ch w12 => R (.panicked ch) w12))
def stopcockref07_Decode.main (a0p : Option Addr) (a0n : Nat) (a0c : Nat) (w : World) (R : Ending → World → Prop) : Prop :=
  newP w #[(Value.int .i64 0), (Value.int .i64 0), (Value.int .i64 0), (Value.int .i64 0), (Value.complex .f64 0 0)] 52 fun b1 w1 =>
  cond (((a0n : Nat) : Int) != 5) (
    Wr w1 (⟨b1, 0, none⟩ : Addr) [(Value.int .i64 0), (Value.int .i64 0), (Value.int .i64 0), (Value.int .i64 0), (Value.complex .f64 0 0)] ∧ ∀ w2, w2 = w1.setCells (⟨b1, 0, none⟩ : Addr).block (⟨b1, 0, none⟩ : Addr).off [(Value.int .i64 0), (Value.int .i64 0), (Value.int .i64 0), (Value.int .i64 0), (Value.complex .f64 0 0)] →
    (∃ (cs1 : Array Value), cs1.size = 5 ∧ CellsAt w2 (⟨b1, 0, none⟩ : Addr) cs1.toList ∧
      (R (.returned (Value.tuple #[(Value.agg cs1), (Value.int .i64 6)])) w2))) (
    chk (decide (0 < ((a0n : Nat) : Int))) (
      optP a0p fun d1 =>
      ∃ (x1 : Int), w1.drew.cell? d1 = some (Value.int .u8 x1) ∧
      (chk (decide (1 < ((a0n : Nat) : Int))) (
          optP a0p fun d2 =>
          ∃ (x2 : Int), w1.drew.cell? (d2.add 1) = some (Value.int .u8 x2) ∧
          (chk (decide (1 < ((a0n : Nat) : Int))) (
              optP a0p fun d3 =>
              ∃ (x3 : Int), w1.drew.cell? (d3.add 1) = some (Value.int .u8 x3) ∧
              (chk (decide (2 < ((a0n : Nat) : Int))) (
                  optP a0p fun d4 =>
                  ∃ (x4 : Int), w1.drew.cell? (d4.add 2) = some (Value.int .u8 x4) ∧
                  (chk (decide (3 < ((a0n : Nat) : Int))) (
                      optP a0p fun d5 =>
                      ∃ (x5 : Int), w1.drew.cell? (d5.add 3) = some (Value.int .u8 x5) ∧
                      (chk (decide (4 < ((a0n : Nat) : Int))) (
                          optP a0p fun d6 =>
                          ∃ (x6 : Int), w1.drew.cell? (d6.add 4) = some (Value.int .u8 x6) ∧
                          ((callP Try.prog 34 #[(Value.int .i64 (IntKind.i64.wrap x5)), (Value.int .i64 (IntKind.i64.wrap x6))] w1.drew (fun v1 w3 =>
                          dC v1 fun r1 m1 =>
                          w3.cell? (d4.add 2) = some (Value.int .u8 x4) ∧
                          (w3.cell? (d3.add 1) = some (Value.int .u8 x3) ∧
                          (w3.cell? (d2.add 1) = some (Value.int .u8 x2) ∧
                          (w3.cell? d1 = some (Value.int .u8 x1) ∧
                          (newP w3 #[(Value.int .i64 0), (Value.int .i64 0), (Value.int .i64 0), (Value.int .i64 0), (Value.complex .f64 0 0)] 52 fun b2 w5 =>
                          (Value.agg #[(Value.int .i64 (IntKind.i64.wrap x1)), (Value.int .i64 (IntKind.i64.wrap (Int.tdiv (IntKind.i64.wrap x2) 16))), (Value.int .i64 (Int.tmod (IntKind.i64.wrap x3) 16)), (Value.int .i64 (IntKind.i64.wrap x4)), (Value.complex .f64 r1 m1)]) = (Value.agg #[(Value.int .i64 (IntKind.i64.wrap x1)), (Value.int .i64 (IntKind.i64.wrap (Int.tdiv (IntKind.i64.wrap x2) 16))), (Value.int .i64 (Int.tmod (IntKind.i64.wrap x3) 16)), (Value.int .i64 (IntKind.i64.wrap x4)), (Value.complex .f64 r1 m1)]) ∧
                          (w5.cell? (d4.add 2) = some (Value.int .u8 x4) ∧
                          (w5.cell? (d3.add 1) = some (Value.int .u8 x3) ∧
                          (w5.cell? (d2.add 1) = some (Value.int .u8 x2) ∧
                          (w5.cell? d1 = some (Value.int .u8 x1) ∧
                          (Wr w5 (⟨b2, 0, none⟩ : Addr) [(Value.int .i64 (IntKind.i64.wrap x1)), (Value.int .i64 (IntKind.i64.wrap (Int.tdiv (IntKind.i64.wrap x2) 16))), (Value.int .i64 (Int.tmod (IntKind.i64.wrap x3) 16)), (Value.int .i64 (IntKind.i64.wrap x4)), (Value.complex .f64 r1 m1)] ∧ ∀ w6, w6 = w5.setCells (⟨b2, 0, none⟩ : Addr).block (⟨b2, 0, none⟩ : Addr).off [(Value.int .i64 (IntKind.i64.wrap x1)), (Value.int .i64 (IntKind.i64.wrap (Int.tdiv (IntKind.i64.wrap x2) 16))), (Value.int .i64 (Int.tmod (IntKind.i64.wrap x3) 16)), (Value.int .i64 (IntKind.i64.wrap x4)), (Value.complex .f64 r1 m1)] →
                          (stopcockref07_Decode.k1 b1 b2 w6 R))))))))))) (fun ch w4 => R (.panicked ch) w4)) ∧
                          (newP w1.drew #[(Value.int .i64 0), (Value.int .i64 0), (Value.int .i64 0), (Value.int .i64 0), (Value.complex .f64 0 0)] 52 fun b3 w7 =>
                          w7.cell? (d6.add 4) = some (Value.int .u8 x6) ∧
                          (w7.cell? (d5.add 3) = some (Value.int .u8 x5) ∧
                          (w7.cell? (d4.add 2) = some (Value.int .u8 x4) ∧
                          (w7.cell? (d3.add 1) = some (Value.int .u8 x3) ∧
                          (w7.cell? (d2.add 1) = some (Value.int .u8 x2) ∧
                          (w7.cell? d1 = some (Value.int .u8 x1) ∧
                          (callP Try.prog 34 #[(Value.int .i64 (IntKind.i64.wrap x5)), (Value.int .i64 (IntKind.i64.wrap x6))] w7 (fun v2 w8 =>
                          dC v2 fun r2 m2 =>
                          w8.cell? (d4.add 2) = some (Value.int .u8 x4) ∧
                          (w8.cell? (d3.add 1) = some (Value.int .u8 x3) ∧
                          (w8.cell? (d2.add 1) = some (Value.int .u8 x2) ∧
                          (w8.cell? d1 = some (Value.int .u8 x1) ∧
                          (Wr w8 (⟨b3, 0, none⟩ : Addr) [(Value.int .i64 (IntKind.i64.wrap x1)), (Value.int .i64 (IntKind.i64.wrap (Int.tdiv (IntKind.i64.wrap x2) 16))), (Value.int .i64 (Int.tmod (IntKind.i64.wrap x3) 16)), (Value.int .i64 (IntKind.i64.wrap x4)), (Value.complex .f64 r2 m2)] ∧ ∀ w10, w10 = w8.setCells (⟨b3, 0, none⟩ : Addr).block (⟨b3, 0, none⟩ : Addr).off [(Value.int .i64 (IntKind.i64.wrap x1)), (Value.int .i64 (IntKind.i64.wrap (Int.tdiv (IntKind.i64.wrap x2) 16))), (Value.int .i64 (Int.tmod (IntKind.i64.wrap x3) 16)), (Value.int .i64 (IntKind.i64.wrap x4)), (Value.complex .f64 r2 m2)] →
                          (stopcockref07_Decode.k1 b1 b3 w10 R)))))) (fun ch w9 => R (.panicked ch) w9)))))))))))))))))))))
abbrev stopcockref07_Decode.C (a0p : Option Addr) (a0n : Nat) (a0c : Nat) (w : World) (R : Ending → World → Prop) : Prop := Calls Try.prog 23 #[(Value.slice a0p a0n a0c)] w R
noncomputable def stopcockref07_Decode.code : Code := (Try.f23.body).getD .skip
noncomputable def stopcockref07_Decode.sk (R : Ending → World → Prop) : Sk := (.seq .leaf (.seq .leaf (.cut [(2, .blk), (4, .blk)] (fun (t2 : Nat) (t4 : Nat) (w : World) => stopcockref07_Decode.k1 t2 t4 w R) .leaf .leaf)))
def stopcockref07_Decode.owed (R : Ending → World → Prop) : Prop :=
  (∀ (t2 : Nat) (t4 : Nat) (w : World), stopcockref07_Decode.k1 t2 t4 w R → stopcockref07_Decode.k1 t2 t4 w R) ∧ True
theorem stopcockref07_Decode.pays (R : Ending → World → Prop) : stopcockref07_Decode.owed R := ⟨(fun _ _ _ h => h), trivial⟩
set_option maxRecDepth 100000 in
theorem stopcockref07_Decode.ok {a0p : Option Addr} {a0n : Nat} {a0c : Nat} {w : World} {R : Ending → World → Prop} (h : stopcockref07_Decode.main a0p a0n a0c w R) : stopcockref07_Decode.C a0p a0n a0c w R :=
  ev_ok cxok (c := cx) Try.func23 (code := stopcockref07_Decode.code) (by kernel_rfl) [.cell 2 52, .tmp 3] (by kernel_rfl) 42 (by kernel_rfl) (stopcockref07_Decode.sk R) (args := [(Value.slice a0p a0n a0c)]) (Nat.le_of_ble_eq_true rfl) (by kernel_rfl) (o := stopcockref07_Decode.owed R) (by kernel_rfl) (stopcockref07_Decode.pays R) h

/-! ### stopcock/stopcockref04.Put: function 24 -/
def stopcockref04_Put.b1 (t2 : Int) (t8p : Option Addr) (t8n : Nat) (t8c : Nat) (t9 : Int) (w : World) (R : Ending → World → Prop) (C1 : Int → Option Addr → Nat → Nat → Int → World → Prop) : Prop :=
  cond (decide (t9 ≥ 0)) (
    callP Try.prog 36 #[(Value.int .i64 t9)] w (fun v2 w5 =>
      dI .i64 v2 fun x2 =>
      chk (decide (x2 ≠ 0)) (
        newP w5 #[(Value.int .u8 (IntKind.u8.wrap (Int.tmod (IntKind.i64.wrap (Int.tdiv t2 x2)) 256)))] 5 fun b2 w7 =>
        appP w7 t8p t8n t8c 1 (CellsO w7 (some ⟨b2, 0, none⟩)) 5 1 1 #[(Value.int .u8 0)] fun p2 c2 w8 =>
        C1 t2 p2 (t8n + 1) c2 (IntKind.i64.wrap (t9 - 1)) w8)) (fun ch w6 => R (.panicked ch) w6)) (
    R (.returned (Value.tuple #[(Value.slice t8p t8n t8c), (Value.int .i64 0)])) w)
def stopcockref04_Put.l1 (t2 : Int) (t8p : Option Addr) (t8n : Nat) (t8c : Nat) (t9 : Int) (w : World) (R : Ending → World → Prop) : Prop :=
  ∃ (I : Int → Option Addr → Nat → Nat → Int → World → Prop) (m : Int → Option Addr → Nat → Nat → Int → World → Nat), I t2 t8p t8n t8c t9 w ∧
  ∀ (t2 : Int) (t8p : Option Addr) (t8n : Nat) (t8c : Nat) (t9 : Int) (w : World), I t2 t8p t8n t8c t9 w →
  stopcockref04_Put.b1 t2 t8p t8n t8c t9 w R (fun t2' t8p' t8n' t8c' t9' w' => I t2' t8p' t8n' t8c' t9' w' ∧ m t2' t8p' t8n' t8c' t9' w' < m t2 t8p t8n t8c t9 w)
def stopcockref04_Put.main (a0p : Option Addr) (a0n : Nat) (a0c : Nat) (a1 : Int) (a2 : Int) (w : World) (R : Ending → World → Prop) : Prop :=
  cond (decide (a1 < 1)) (
    R (.returned (Value.tuple #[(Value.slice none 0 0), (Value.int .i64 1)])) w) (
    cond (decide (a1 > 4)) (
      R (.returned (Value.tuple #[(Value.slice none 0 0), (Value.int .i64 1)])) w) (
      cond (decide (a2 < 0)) (
        R (.returned (Value.tuple #[(Value.slice none 0 0), (Value.int .i64 5)])) w) (
        callP Try.prog 36 #[(Value.int .i64 a1)] w (fun v1 w1 =>
          dI .i64 v1 fun x1 =>
          cond (decide (a2 ≥ x1)) (
            R (.returned (Value.tuple #[(Value.slice none 0 0), (Value.int .i64 5)])) w1) (
            newP w1 #[] 5 fun b1 w3 =>
            appP w3 (some ⟨b1, 0, none⟩) 0 0 a0n (CellsO w3 a0p) 5 1 1 #[(Value.int .u8 0)] fun p1 c1 w4 =>
            stopcockref04_Put.l1 a2 p1 (0 + a0n) c1 (IntKind.i64.wrap (a1 - 1)) w4 R)) (fun ch w2 => R (.panicked ch) w2))))
abbrev stopcockref04_Put.C (a0p : Option Addr) (a0n : Nat) (a0c : Nat) (a1 : Int) (a2 : Int) (w : World) (R : Ending → World → Prop) : Prop := Calls Try.prog 24 #[(Value.slice a0p a0n a0c), (Value.int .i64 a1), (Value.int .i64 a2)] w R
noncomputable def stopcockref04_Put.code : Code := (Try.f24.body).getD .skip
noncomputable def stopcockref04_Put.sk (R : Ending → World → Prop) : Sk := (.seq .leaf (.seq .leaf (.seq .leaf (.seq .leaf (.seq (.seq .leaf (.block (.loop [(2, .int .i64), (8, .slice), (9, .int .i64)] (fun (t2 : Int) (t8p : Option Addr) (t8n : Nat) (t8c : Nat) (t9 : Int) (w : World) => stopcockref04_Put.l1 t2 t8p t8n t8c t9 w R) (fun (C1 : Int → Option Addr → Nat → Nat → Int → World → Prop) => .leaf)))) .leaf)))))
def stopcockref04_Put.owed (R : Ending → World → Prop) : Prop :=
  (∀ (t2 : Int) (t8p : Option Addr) (t8n : Nat) (t8c : Nat) (t9 : Int) (w : World), stopcockref04_Put.l1 t2 t8p t8n t8c t9 w R → stopcockref04_Put.l1 t2 t8p t8n t8c t9 w R) ∧ (∀ (C1 : Int → Option Addr → Nat → Nat → Int → World → Prop), True) ∧ True
theorem stopcockref04_Put.pays (R : Ending → World → Prop) : stopcockref04_Put.owed R := ⟨(fun _ _ _ _ _ _ h => h), (fun _ => trivial), trivial⟩
set_option maxRecDepth 100000 in
theorem stopcockref04_Put.ok {a0p : Option Addr} {a0n : Nat} {a0c : Nat} {a1 : Int} {a2 : Int} {w : World} {R : Ending → World → Prop} (h : stopcockref04_Put.main a0p a0n a0c a1 a2 w R) : stopcockref04_Put.C a0p a0n a0c a1 a2 w R :=
  ev_ok cxok (c := cx) Try.func24 (code := stopcockref04_Put.code) (by kernel_rfl) [.tmp 6, .tmp 7] (by kernel_rfl) 43 (by kernel_rfl) (stopcockref04_Put.sk R) (args := [(Value.slice a0p a0n a0c), (Value.int .i64 a1), (Value.int .i64 a2)]) (Nat.le_of_ble_eq_true rfl) (by kernel_rfl) (o := stopcockref04_Put.owed R) (by kernel_rfl) (stopcockref04_Put.pays R) h

/-! ### stopcock/stopcockref07.Encode: function 25 -/
def stopcockref07_Encode.main (a0_0 : Int) (a0_1 : Int) (a0_2 : Int) (a0_3 : Int) (a0_4r : Nat) (a0_4m : Nat) (w : World) (R : Ending → World → Prop) : Prop :=
  newP w #[(Value.int .i64 a0_0), (Value.int .i64 a0_1), (Value.int .i64 a0_2), (Value.int .i64 a0_3), (Value.complex .f64 a0_4r a0_4m)] 52 fun b1 w1 =>
  ∃ (cs1 : Array Value), cs1.size = 5 ∧ CellsAt w1 (⟨b1, 0, none⟩ : Addr) cs1.toList ∧
  (callP Try.prog 35 #[(Value.agg cs1)] w1 (fun v1 w2 =>
      dI .i64 v1 fun x1 =>
      cond (x1 != 0) (
        R (.returned (Value.tuple #[(Value.slice none 0 0), (Value.int .i64 x1)])) w2) (
        ∃ (r1 : Nat) (m1 : Nat), w2.cell? (⟨b1, 4, none⟩ : Addr) = some (Value.complex .f64 r1 m1) ∧
        (callP Try.prog 37 #[(Value.complex .f64 r1 m1)] w2 (fun v2 w4 =>
            dT v2 fun vs1 =>
            optP (vs1[0]?) fun v3 =>
            dI .i64 v3 fun x2 =>
            optP (vs1[1]?) fun v4 =>
            dI .i64 v4 fun x3 =>
            optP (vs1[2]?) fun v5 =>
            dI .i64 v5 fun x4 =>
            ∃ (x5 : Int), w4.cell? (⟨b1, 0, none⟩ : Addr) = some (Value.int .i64 x5) ∧
            (∃ (x6 : Int), w4.cell? (⟨b1, 1, none⟩ : Addr) = some (Value.int .i64 x6) ∧
              (∃ (x7 : Int), w4.cell? (⟨b1, 2, none⟩ : Addr) = some (Value.int .i64 x7) ∧
                (∃ (x8 : Int), w4.cell? (⟨b1, 3, none⟩ : Addr) = some (Value.int .i64 x8) ∧
                  (newP w4 #[(Value.int .u8 (IntKind.u8.wrap x5)), (Value.int .u8 (IntKind.u8.wrap (IntKind.i64.wrap ((IntKind.i64.wrap (16 * x6)) + x7)))), (Value.int .u8 (IntKind.u8.wrap x8)), (Value.int .u8 (IntKind.u8.wrap x2)), (Value.int .u8 (IntKind.u8.wrap x3))] 5 fun b2 w6 =>
                    R (.returned (Value.tuple #[(Value.slice (some ⟨b2, 0, none⟩) 5 5), (Value.int .i64 0)])) w6))))) (fun ch w5 => R (.panicked ch) w5)))) (fun ch w3 => R (.panicked ch) w3))
abbrev stopcockref07_Encode.C (a0_0 : Int) (a0_1 : Int) (a0_2 : Int) (a0_3 : Int) (a0_4r : Nat) (a0_4m : Nat) (w : World) (R : Ending → World → Prop) : Prop := Calls Try.prog 25 #[(Value.agg #[(Value.int .i64 a0_0), (Value.int .i64 a0_1), (Value.int .i64 a0_2), (Value.int .i64 a0_3), (Value.complex .f64 a0_4r a0_4m)])] w R
noncomputable def stopcockref07_Encode.code : Code := (Try.f25.body).getD .skip
noncomputable def stopcockref07_Encode.sk (R : Ending → World → Prop) : Sk := .leaf
def stopcockref07_Encode.owed (R : Ending → World → Prop) : Prop :=
  True
theorem stopcockref07_Encode.pays (R : Ending → World → Prop) : stopcockref07_Encode.owed R := trivial
set_option maxRecDepth 100000 in
theorem stopcockref07_Encode.ok {a0_0 : Int} {a0_1 : Int} {a0_2 : Int} {a0_3 : Int} {a0_4r : Nat} {a0_4m : Nat} {w : World} {R : Ending → World → Prop} (h : stopcockref07_Encode.main a0_0 a0_1 a0_2 a0_3 a0_4r a0_4m w R) : stopcockref07_Encode.C a0_0 a0_1 a0_2 a0_3 a0_4r a0_4m w R :=
  ev_ok cxok (c := cx) Try.func25 (code := stopcockref07_Encode.code) (by kernel_rfl) [.tmp 2, .tmp 3] (by kernel_rfl) 38 (by kernel_rfl) (stopcockref07_Encode.sk R) (args := [(Value.agg #[(Value.int .i64 a0_0), (Value.int .i64 a0_1), (Value.int .i64 a0_2), (Value.int .i64 a0_3), (Value.complex .f64 a0_4r a0_4m)])]) (Nat.le_of_ble_eq_true rfl) (by kernel_rfl) (o := stopcockref07_Encode.owed R) (by kernel_rfl) (stopcockref07_Encode.pays R) h

/-! ### stopcock/stopcockref03.Close: function 26 -/
def stopcockref03_Close.k1 (t4p : Option Addr) (t4n : Nat) (t4c : Nat) (w : World) (R : Ending → World → Prop) : Prop :=
  callP Try.prog 38 #[(Value.slice t4p t4n t4c)] w (fun v1 w5 =>
    dI .u32 v1 fun x1 =>
    newP w5 #[(Value.int .u8 (IntKind.u8.wrap (Int.fdiv x1 (2 ^ (min 24 IntKind.u32.bits))))), (Value.int .u8 (IntKind.u8.wrap (Int.fdiv x1 (2 ^ (min 16 IntKind.u32.bits))))), (Value.int .u8 (IntKind.u8.wrap (Int.fdiv x1 (2 ^ (min 8 IntKind.u32.bits))))), (Value.int .u8 (IntKind.u8.wrap x1))] 5 fun b3 w7 =>
    appP w7 t4p t4n t4c 4 (CellsO w7 (some ⟨b3, 0, none⟩)) 5 1 1 #[(Value.int .u8 0)] fun p3 c3 w8 =>
    R (.returned (Value.tuple #[(Value.slice p3 (t4n + 4) c3), (Value.int .i64 0)])) w8) (fun ch w6 => R (.panicked ch) w6)
def stopcockref03_Close.b1 (t4p : Option Addr) (t4n : Nat) (t4c : Nat) (w : World) (R : Ending → World → Prop) (C1 : Option Addr → Nat → Nat → World → Prop) : Prop :=
  cond (decide (((t4n : Nat) : Int) < 60)) (
    newP w #[(Value.int .u8 0)] 5 fun b2 w3 =>
    appP w3 t4p t4n t4c 1 (CellsO w3 (some ⟨b2, 0, none⟩)) 5 1 1 #[(Value.int .u8 0)] fun p2 c2 w4 =>
    C1 p2 (t4n + 1) c2 w4) (
    stopcockref03_Close.k1 t4p t4n t4c w R)
def stopcockref03_Close.l1 (t4p : Option Addr) (t4n : Nat) (t4c : Nat) (w : World) (R : Ending → World → Prop) : Prop :=
  ∃ (I : Option Addr → Nat → Nat → World → Prop) (m : Option Addr → Nat → Nat → World → Nat), I t4p t4n t4c w ∧
  ∀ (t4p : Option Addr) (t4n : Nat) (t4c : Nat) (w : World), I t4p t4n t4c w →
  stopcockref03_Close.b1 t4p t4n t4c w R (fun t4p' t4n' t4c' w' => I t4p' t4n' t4c' w' ∧ m t4p' t4n' t4c' w' < m t4p t4n t4c w)
def stopcockref03_Close.main (a0p : Option Addr) (a0n : Nat) (a0c : Nat) (w : World) (R : Ending → World → Prop) : Prop :=
  cond (decide (((a0n : Nat) : Int) > 60)) (
    R (.returned (Value.tuple #[(Value.slice none 0 0), (Value.int .i64 6)])) w) (
    newP w #[] 5 fun b1 w1 =>
    appP w1 (some ⟨b1, 0, none⟩) 0 0 a0n (CellsO w1 a0p) 5 1 1 #[(Value.int .u8 0)] fun p1 c1 w2 =>
    stopcockref03_Close.l1 p1 (0 + a0n) c1 w2 R)
abbrev stopcockref03_Close.C (a0p : Option Addr) (a0n : Nat) (a0c : Nat) (w : World) (R : Ending → World → Prop) : Prop := Calls Try.prog 26 #[(Value.slice a0p a0n a0c)] w R
noncomputable def stopcockref03_Close.code : Code := (Try.f26.body).getD .skip
noncomputable def stopcockref03_Close.sk (R : Ending → World → Prop) : Sk := (.seq .leaf (.seq .leaf (.seq .leaf (.cut [(4, .slice)] (fun (t4p : Option Addr) (t4n : Nat) (t4c : Nat) (w : World) => stopcockref03_Close.k1 t4p t4n t4c w R) (.block (.loop [(4, .slice)] (fun (t4p : Option Addr) (t4n : Nat) (t4c : Nat) (w : World) => stopcockref03_Close.l1 t4p t4n t4c w R) (fun (C1 : Option Addr → Nat → Nat → World → Prop) => .leaf))) .leaf))))
def stopcockref03_Close.owed (R : Ending → World → Prop) : Prop :=
  (∀ (t4p : Option Addr) (t4n : Nat) (t4c : Nat) (w : World), stopcockref03_Close.l1 t4p t4n t4c w R → stopcockref03_Close.l1 t4p t4n t4c w R) ∧ (∀ (C1 : Option Addr → Nat → Nat → World → Prop), True) ∧ (∀ (t4p : Option Addr) (t4n : Nat) (t4c : Nat) (w : World), stopcockref03_Close.k1 t4p t4n t4c w R → stopcockref03_Close.k1 t4p t4n t4c w R) ∧ True
theorem stopcockref03_Close.pays (R : Ending → World → Prop) : stopcockref03_Close.owed R := ⟨(fun _ _ _ _ h => h), (fun _ => trivial), (fun _ _ _ _ h => h), trivial⟩
set_option maxRecDepth 100000 in
theorem stopcockref03_Close.ok {a0p : Option Addr} {a0n : Nat} {a0c : Nat} {w : World} {R : Ending → World → Prop} (h : stopcockref03_Close.main a0p a0n a0c w R) : stopcockref03_Close.C a0p a0n a0c w R :=
  ev_ok cxok (c := cx) Try.func26 (code := stopcockref03_Close.code) (by kernel_rfl) [.tmp 2, .tmp 3] (by kernel_rfl) 34 (by kernel_rfl) (stopcockref03_Close.sk R) (args := [(Value.slice a0p a0n a0c)]) (Nat.le_of_ble_eq_true rfl) (by kernel_rfl) (o := stopcockref03_Close.owed R) (by kernel_rfl) (stopcockref03_Close.pays R) h

/-! ### stopcock/stopcockref01.Make: function 34 -/
def stopcockref01_Make.main (a0 : Int) (a1 : Int) (w : World) (R : Ending → World → Prop) : Prop :=
  R (.returned (Value.complex .f64 (FloatKind.f64.nearest a0) (FloatKind.f64.nearest a1))) w
abbrev stopcockref01_Make.C (a0 : Int) (a1 : Int) (w : World) (R : Ending → World → Prop) : Prop := Calls Try.prog 34 #[(Value.int .i64 a0), (Value.int .i64 a1)] w R
noncomputable def stopcockref01_Make.code : Code := (Try.f34.body).getD .skip
noncomputable def stopcockref01_Make.sk (R : Ending → World → Prop) : Sk := .leaf
def stopcockref01_Make.owed (R : Ending → World → Prop) : Prop :=
  True
theorem stopcockref01_Make.pays (R : Ending → World → Prop) : stopcockref01_Make.owed R := trivial
set_option maxRecDepth 100000 in
theorem stopcockref01_Make.ok {a0 : Int} {a1 : Int} {w : World} {R : Ending → World → Prop} (h : stopcockref01_Make.main a0 a1 w R) : stopcockref01_Make.C a0 a1 w R :=
  ev_ok cxok (c := cx) Try.func34 (code := stopcockref01_Make.code) (by kernel_rfl) [.tmp 4] (by kernel_rfl) 10 (by kernel_rfl) (stopcockref01_Make.sk R) (args := [(Value.int .i64 a0), (Value.int .i64 a1)]) (Nat.le_of_ble_eq_true rfl) (by kernel_rfl) (o := stopcockref01_Make.owed R) (by kernel_rfl) (stopcockref01_Make.pays R) h

/-! ### stopcock/stopcockref07.Check: function 35 -/
def stopcockref07_Check.k3 (t5 : Bool) (t6 : Bool) (w : World) (R : Ending → World → Prop) : Prop :=
  cond (!t5) (
    R (.returned (Value.int .i64 2)) w) (
    cond (!t6) (
      R (.returned (Value.int .i64 2)) w) (
      R (.returned (Value.int .i64 0)) w))
def stopcockref07_Check.k2 (t1 : Nat) (t3 : Bool) (t4 : Bool) (w : World) (R : Ending → World → Prop) : Prop :=
  ∃ (x5 : Int), w.cell? (⟨t1, 2, none⟩ : Addr) = some (Value.int .i64 x5) ∧
  (∃ (r1 : Nat) (m1 : Nat), w.cell? (⟨t1, 4, none⟩ : Addr) = some (Value.complex .f64 r1 m1) ∧
    (∃ (x6 : Int), w.cell? (⟨t1, 0, none⟩ : Addr) = some (Value.int .i64 x6) ∧
      (cond (x6 == 1) (
          cond (!t3) (
            R (.returned (Value.int .i64 5)) w) (
            ∃ (x7 : Int), w.cell? (⟨t1, 3, none⟩ : Addr) = some (Value.int .i64 x7) ∧
            (cond (decide (x7 < 1)) (
                R (.returned (Value.int .i64 5)) w) (
                ∃ (x8 : Int), w.cell? (⟨t1, 3, none⟩ : Addr) = some (Value.int .i64 x8) ∧
                (cond (decide (x8 > 32)) (
                    R (.returned (Value.int .i64 5)) w) (
                    stopcockref07_Check.k3 (x5 == 0) (fCmp .eql r1 0 && fCmp .eql m1 0) w R)))))) (
          cond (x6 == 2) (
            cond (!t3) (
              R (.returned (Value.int .i64 5)) w) (
              ∃ (x9 : Int), w.cell? (⟨t1, 3, none⟩ : Addr) = some (Value.int .i64 x9) ∧
              (cond (x9 != 0) (
                  R (.returned (Value.int .i64 2)) w) (
                  stopcockref07_Check.k3 (x5 == 0) (fCmp .eql r1 0 && fCmp .eql m1 0) w R)))) (
            cond (x6 == 3) (
              cond (!t3) (
                R (.returned (Value.int .i64 5)) w) (
                ∃ (x10 : Int), w.cell? (⟨t1, 2, none⟩ : Addr) = some (Value.int .i64 x10) ∧
                (cond (decide (x10 < 0)) (
                    R (.returned (Value.int .i64 5)) w) (
                    ∃ (x11 : Int), w.cell? (⟨t1, 2, none⟩ : Addr) = some (Value.int .i64 x11) ∧
                    (cond (decide (x11 > 7)) (
                        R (.returned (Value.int .i64 5)) w) (
                        ∃ (x12 : Int), w.cell? (⟨t1, 2, none⟩ : Addr) = some (Value.int .i64 x12) ∧
                        (∃ (x13 : Int), w.cell? (⟨t1, 1, none⟩ : Addr) = some (Value.int .i64 x13) ∧
                          (cond (x12 == x13) (
                          R (.returned (Value.int .i64 5)) w) (
                          ∃ (x14 : Int), w.cell? (⟨t1, 3, none⟩ : Addr) = some (Value.int .i64 x14) ∧
                          (cond (x14 != 0) (
                          R (.returned (Value.int .i64 2)) w) (
                          stopcockref07_Check.k3 true (fCmp .eql r1 0 && fCmp .eql m1 0) w R))))))))))) (
              cond (x6 == 4) (
                cond (!t3) (
                  R (.returned (Value.int .i64 5)) w) (
                  cond (!t4) (
                    R (.returned (Value.int .i64 5)) w) (
                    ∃ (r2 : Nat) (m2 : Nat), w.cell? (⟨t1, 4, none⟩ : Addr) = some (Value.complex .f64 r2 m2) ∧
                    (callP Try.prog 45 #[(Value.complex .f64 r2 m2)] w (fun v1 w2 =>
                        dB v1 fun b2 =>
                        cond (!b2) (
                          R (.returned (Value.int .i64 5)) w2) (
                          stopcockref07_Check.k3 (x5 == 0) true w2 R)) (fun ch w3 => R (.panicked ch) w3))))) (
                cond (x6 == 5) (
                  cond (!t3) (
                    R (.returned (Value.int .i64 5)) w) (
                    cond (!t4) (
                      R (.returned (Value.int .i64 5)) w) (
                      stopcockref07_Check.k3 (x5 == 0) (fCmp .eql r1 0 && fCmp .eql m1 0) w R))) (
                  R (.returned (Value.int .i64 1)) w))))))))
def stopcockref07_Check.k1 (t1 : Nat) (t3 : Bool) (w : World) (R : Ending → World → Prop) : Prop :=
  ∃ (x3 : Int), w.cell? (⟨t1, 3, none⟩ : Addr) = some (Value.int .i64 x3) ∧
  (cond (decide (x3 ≥ 0)) (
      ∃ (x4 : Int), w.cell? (⟨t1, 3, none⟩ : Addr) = some (Value.int .i64 x4) ∧
      (stopcockref07_Check.k2 t1 t3 (decide (x4 < 32)) w R)) (
      stopcockref07_Check.k2 t1 t3 false w R))
def stopcockref07_Check.main (a0_0 : Int) (a0_1 : Int) (a0_2 : Int) (a0_3 : Int) (a0_4r : Nat) (a0_4m : Nat) (w : World) (R : Ending → World → Prop) : Prop :=
  newP w #[(Value.int .i64 a0_0), (Value.int .i64 a0_1), (Value.int .i64 a0_2), (Value.int .i64 a0_3), (Value.complex .f64 a0_4r a0_4m)] 52 fun b1 w1 =>
  ∃ (x1 : Int), w1.cell? (⟨b1, 1, none⟩ : Addr) = some (Value.int .i64 x1) ∧
  (cond (decide (x1 ≥ 0)) (
      ∃ (x2 : Int), w1.cell? (⟨b1, 1, none⟩ : Addr) = some (Value.int .i64 x2) ∧
      (stopcockref07_Check.k1 b1 (decide (x2 < 8)) w1 R)) (
      stopcockref07_Check.k1 b1 false w1 R))
abbrev stopcockref07_Check.C (a0_0 : Int) (a0_1 : Int) (a0_2 : Int) (a0_3 : Int) (a0_4r : Nat) (a0_4m : Nat) (w : World) (R : Ending → World → Prop) : Prop := Calls Try.prog 35 #[(Value.agg #[(Value.int .i64 a0_0), (Value.int .i64 a0_1), (Value.int .i64 a0_2), (Value.int .i64 a0_3), (Value.complex .f64 a0_4r a0_4m)])] w R
noncomputable def stopcockref07_Check.code : Code := (Try.f35.body).getD .skip
noncomputable def stopcockref07_Check.sk (R : Ending → World → Prop) : Sk := (.seq .leaf (.cut [(1, .blk), (3, .bool)] (fun (t1 : Nat) (t3 : Bool) (w : World) => stopcockref07_Check.k1 t1 t3 w R) .leaf (.cut [(1, .blk), (3, .bool), (4, .bool)] (fun (t1 : Nat) (t3 : Bool) (t4 : Bool) (w : World) => stopcockref07_Check.k2 t1 t3 t4 w R) .leaf (.seq .leaf (.seq .leaf (.cut [(5, .bool), (6, .bool)] (fun (t5 : Bool) (t6 : Bool) (w : World) => stopcockref07_Check.k3 t5 t6 w R) .leaf .leaf))))))
def stopcockref07_Check.owed (R : Ending → World → Prop) : Prop :=
  (∀ (t1 : Nat) (t3 : Bool) (w : World), stopcockref07_Check.k1 t1 t3 w R → stopcockref07_Check.k1 t1 t3 w R) ∧ (∀ (t1 : Nat) (t3 : Bool) (t4 : Bool) (w : World), stopcockref07_Check.k2 t1 t3 t4 w R → stopcockref07_Check.k2 t1 t3 t4 w R) ∧ (∀ (t5 : Bool) (t6 : Bool) (w : World), stopcockref07_Check.k3 t5 t6 w R → stopcockref07_Check.k3 t5 t6 w R) ∧ True
theorem stopcockref07_Check.pays (R : Ending → World → Prop) : stopcockref07_Check.owed R := ⟨(fun _ _ _ h => h), (fun _ _ _ _ h => h), (fun _ _ _ h => h), trivial⟩
set_option maxRecDepth 100000 in
theorem stopcockref07_Check.ok {a0_0 : Int} {a0_1 : Int} {a0_2 : Int} {a0_3 : Int} {a0_4r : Nat} {a0_4m : Nat} {w : World} {R : Ending → World → Prop} (h : stopcockref07_Check.main a0_0 a0_1 a0_2 a0_3 a0_4r a0_4m w R) : stopcockref07_Check.C a0_0 a0_1 a0_2 a0_3 a0_4r a0_4m w R :=
  ev_ok cxok (c := cx) Try.func35 (code := stopcockref07_Check.code) (by kernel_rfl) [.tmp 2] (by kernel_rfl) 104 (by kernel_rfl) (stopcockref07_Check.sk R) (args := [(Value.agg #[(Value.int .i64 a0_0), (Value.int .i64 a0_1), (Value.int .i64 a0_2), (Value.int .i64 a0_3), (Value.complex .f64 a0_4r a0_4m)])]) (Nat.le_of_ble_eq_true rfl) (by kernel_rfl) (o := stopcockref07_Check.owed R) (by kernel_rfl) (stopcockref07_Check.pays R) h

/-! ### stopcock/stopcockref04.limit: function 36 -/
def stopcockref04_limit.b1 (t0 : Int) (t3 : Int) (t4 : Int) (w : World) (R : Ending → World → Prop) (C1 : Int → Int → Int → World → Prop) : Prop :=
  cond (decide (t4 < t0)) (
    C1 t0 (IntKind.i64.wrap (t3 * 256)) (IntKind.i64.wrap (t4 + 1)) w) (
    R (.returned (Value.int .i64 t3)) w)
def stopcockref04_limit.l1 (t0 : Int) (t3 : Int) (t4 : Int) (w : World) (R : Ending → World → Prop) : Prop :=
  ∃ (I : Int → Int → Int → World → Prop) (m : Int → Int → Int → World → Nat), I t0 t3 t4 w ∧
  ∀ (t0 : Int) (t3 : Int) (t4 : Int) (w : World), I t0 t3 t4 w →
  stopcockref04_limit.b1 t0 t3 t4 w R (fun t0' t3' t4' w' => I t0' t3' t4' w' ∧ m t0' t3' t4' w' < m t0 t3 t4 w)
def stopcockref04_limit.main (a0 : Int) (w : World) (R : Ending → World → Prop) : Prop :=
  stopcockref04_limit.l1 a0 1 0 w R
abbrev stopcockref04_limit.C (a0 : Int) (w : World) (R : Ending → World → Prop) : Prop := Calls Try.prog 36 #[(Value.int .i64 a0)] w R
noncomputable def stopcockref04_limit.code : Code := (Try.f36.body).getD .skip
noncomputable def stopcockref04_limit.sk (R : Ending → World → Prop) : Sk := (.seq .leaf (.seq .leaf (.seq (.seq .leaf (.block (.loop [(0, .int .i64), (3, .int .i64), (4, .int .i64)] (fun (t0 : Int) (t3 : Int) (t4 : Int) (w : World) => stopcockref04_limit.l1 t0 t3 t4 w R) (fun (C1 : Int → Int → Int → World → Prop) => .leaf)))) .leaf)))
def stopcockref04_limit.owed (R : Ending → World → Prop) : Prop :=
  (∀ (t0 : Int) (t3 : Int) (t4 : Int) (w : World), stopcockref04_limit.l1 t0 t3 t4 w R → stopcockref04_limit.l1 t0 t3 t4 w R) ∧ (∀ (C1 : Int → Int → Int → World → Prop), True) ∧ True
theorem stopcockref04_limit.pays (R : Ending → World → Prop) : stopcockref04_limit.owed R := ⟨(fun _ _ _ _ h => h), (fun _ => trivial), trivial⟩
set_option maxRecDepth 100000 in
theorem stopcockref04_limit.ok {a0 : Int} {w : World} {R : Ending → World → Prop} (h : stopcockref04_limit.main a0 w R) : stopcockref04_limit.C a0 w R :=
  ev_ok cxok (c := cx) Try.func36 (code := stopcockref04_limit.code) (by kernel_rfl) [.tmp 2] (by kernel_rfl) 13 (by kernel_rfl) (stopcockref04_limit.sk R) (args := [(Value.int .i64 a0)]) (Nat.le_of_ble_eq_true rfl) (by kernel_rfl) (o := stopcockref04_limit.owed R) (by kernel_rfl) (stopcockref04_limit.pays R) h

/-! ### stopcock/stopcockref01.Parts: function 37 -/
def stopcockref01_Parts.main (a0r : Nat) (a0m : Nat) (w : World) (R : Ending → World → Prop) : Prop :=
  callP Try.prog 46 #[(Value.float .f64 a0r), (Value.int .i64 24)] w (fun v1 w1 =>
    dI .i64 v1 fun x1 =>
    callP Try.prog 46 #[(Value.float .f64 a0m), (Value.int .i64 16)] w1 (fun v2 w3 =>
      dI .i64 v2 fun x2 =>
      cond (decide (x1 < 0)) (
        R (.returned (Value.tuple #[(Value.int .i64 0), (Value.int .i64 0), (Value.int .i64 2)])) w3) (
        cond (decide (x2 < 0)) (
          R (.returned (Value.tuple #[(Value.int .i64 0), (Value.int .i64 0), (Value.int .i64 2)])) w3) (
          R (.returned (Value.tuple #[(Value.int .i64 x1), (Value.int .i64 x2), (Value.int .i64 0)])) w3))) (fun ch w4 => R (.panicked ch) w4)) (fun ch w2 => R (.panicked ch) w2)
abbrev stopcockref01_Parts.C (a0r : Nat) (a0m : Nat) (w : World) (R : Ending → World → Prop) : Prop := Calls Try.prog 37 #[(Value.complex .f64 a0r a0m)] w R
noncomputable def stopcockref01_Parts.code : Code := (Try.f37.body).getD .skip
noncomputable def stopcockref01_Parts.sk (R : Ending → World → Prop) : Sk := .leaf
def stopcockref01_Parts.owed (R : Ending → World → Prop) : Prop :=
  True
theorem stopcockref01_Parts.pays (R : Ending → World → Prop) : stopcockref01_Parts.owed R := trivial
set_option maxRecDepth 100000 in
theorem stopcockref01_Parts.ok {a0r : Nat} {a0m : Nat} {w : World} {R : Ending → World → Prop} (h : stopcockref01_Parts.main a0r a0m w R) : stopcockref01_Parts.C a0r a0m w R :=
  ev_ok cxok (c := cx) Try.func37 (code := stopcockref01_Parts.code) (by kernel_rfl) [.tmp 2, .tmp 3, .tmp 4] (by kernel_rfl) 21 (by kernel_rfl) (stopcockref01_Parts.sk R) (args := [(Value.complex .f64 a0r a0m)]) (Nat.le_of_ble_eq_true rfl) (by kernel_rfl) (o := stopcockref01_Parts.owed R) (by kernel_rfl) (stopcockref01_Parts.pays R) h

/-! ### stopcock/stopcockref03.Sum: function 38 -/
def stopcockref03_Sum.main (a0p : Option Addr) (a0n : Nat) (a0c : Nat) (w : World) (R : Ending → World → Prop) : Prop :=
  callP Try.prog 47 #[(Value.int .u32 0), (Value.slice a0p a0n a0c)] w (fun v1 w1 =>
    dI .u32 v1 fun x1 =>
    R (.returned (Value.int .u32 x1)) w1) (fun ch w2 => R (.panicked ch) w2)
abbrev stopcockref03_Sum.C (a0p : Option Addr) (a0n : Nat) (a0c : Nat) (w : World) (R : Ending → World → Prop) : Prop := Calls Try.prog 38 #[(Value.slice a0p a0n a0c)] w R
noncomputable def stopcockref03_Sum.code : Code := (Try.f38.body).getD .skip
noncomputable def stopcockref03_Sum.sk (R : Ending → World → Prop) : Sk := .leaf
def stopcockref03_Sum.owed (R : Ending → World → Prop) : Prop :=
  True
theorem stopcockref03_Sum.pays (R : Ending → World → Prop) : stopcockref03_Sum.owed R := trivial
set_option maxRecDepth 100000 in
theorem stopcockref03_Sum.ok {a0p : Option Addr} {a0n : Nat} {a0c : Nat} {w : World} {R : Ending → World → Prop} (h : stopcockref03_Sum.main a0p a0n a0c w R) : stopcockref03_Sum.C a0p a0n a0c w R :=
  ev_ok cxok (c := cx) Try.func38 (code := stopcockref03_Sum.code) (by kernel_rfl) [.tmp 2] (by kernel_rfl) 5 (by kernel_rfl) (stopcockref03_Sum.sk R) (args := [(Value.slice a0p a0n a0c)]) (Nat.le_of_ble_eq_true rfl) (by kernel_rfl) (o := stopcockref03_Sum.owed R) (by kernel_rfl) (stopcockref03_Sum.pays R) h

/-! ### stopcock/stopcockref01.Whole: function 45 -/
def stopcockref01_Whole.main (a0r : Nat) (a0m : Nat) (w : World) (R : Ending → World → Prop) : Prop :=
  callP Try.prog 37 #[(Value.complex .f64 a0r a0m)] w (fun v1 w1 =>
    dT v1 fun vs1 =>
    optP (vs1[0]?) fun v2 =>
    dI .i64 v2 fun x1 =>
    optP (vs1[1]?) fun v3 =>
    dI .i64 v3 fun x2 =>
    optP (vs1[2]?) fun v4 =>
    dI .i64 v4 fun x3 =>
    R (.returned (Value.bool (x3 == 0))) w1) (fun ch w2 => R (.panicked ch) w2)
abbrev stopcockref01_Whole.C (a0r : Nat) (a0m : Nat) (w : World) (R : Ending → World → Prop) : Prop := Calls Try.prog 45 #[(Value.complex .f64 a0r a0m)] w R
noncomputable def stopcockref01_Whole.code : Code := (Try.f45.body).getD .skip
noncomputable def stopcockref01_Whole.sk (R : Ending → World → Prop) : Sk := .leaf
def stopcockref01_Whole.owed (R : Ending → World → Prop) : Prop :=
  True
theorem stopcockref01_Whole.pays (R : Ending → World → Prop) : stopcockref01_Whole.owed R := trivial
set_option maxRecDepth 100000 in
theorem stopcockref01_Whole.ok {a0r : Nat} {a0m : Nat} {w : World} {R : Ending → World → Prop} (h : stopcockref01_Whole.main a0r a0m w R) : stopcockref01_Whole.C a0r a0m w R :=
  ev_ok cxok (c := cx) Try.func45 (code := stopcockref01_Whole.code) (by kernel_rfl) [.tmp 2] (by kernel_rfl) 14 (by kernel_rfl) (stopcockref01_Whole.sk R) (args := [(Value.complex .f64 a0r a0m)]) (Nat.le_of_ble_eq_true rfl) (by kernel_rfl) (o := stopcockref01_Whole.owed R) (by kernel_rfl) (stopcockref01_Whole.pays R) h

end Go.Proofs.Ytnbegeghcjldfaa.G

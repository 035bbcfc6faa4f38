/- Statements of functions, and that their calls do what they say. Printed by wip/tool/dec.py. Conditions: none. -/
import Derived.Test.YthgmebhkbbehmaaG0
namespace Go.Proofs.Ythgmebhkbbehmaa.G
open Go.Dec
set_option linter.unusedVariables false

/-! ### stopcock/stopcockref01.Flat: function 44 -/
def stopcockref01_Flat.main (a0r : Nat) (a0m : Nat) (a1 : Int) (w : World) (R : Ending → World → Prop) : Prop :=
  cond (decide (a1 < 1)) (
    R (.returned (Value.tuple #[(Value.int .i64 0), (Value.int .i64 1)])) w) (
    cond (decide (a1 > 16)) (
      R (.returned (Value.tuple #[(Value.int .i64 0), (Value.int .i64 1)])) w) (
      callP Try.prog 54 #[(Value.complex .f64 a0r a0m)] w (fun v1 w1 =>
        dT v1 fun vs1 =>
        optP (vs1[0]?) fun v2 =>
        dI .i64 v2 fun x1 =>
        optP (vs1[1]?) fun v3 =>
        dI .i64 v3 fun x2 =>
        optP (vs1[2]?) fun v4 =>
        dI .i64 v4 fun x3 =>
        cond (x3 != 0) (
          R (.returned (Value.tuple #[(Value.int .i64 0), (Value.int .i64 x3)])) w1) (
          cond (decide (x2 ≥ a1)) (
            R (.returned (Value.tuple #[(Value.int .i64 0), (Value.int .i64 5)])) w1) (
            R (.returned (Value.tuple #[(Value.int .i64 (IntKind.i64.wrap ((IntKind.i64.wrap (x1 * a1)) + x2))), (Value.int .i64 0)])) w1))) (fun ch w2 => R (.panicked ch) w2)))
abbrev stopcockref01_Flat.C (a0r : Nat) (a0m : Nat) (a1 : Int) (w : World) (R : Ending → World → Prop) : Prop := Calls Try.prog 44 #[(Value.complex .f64 a0r a0m), (Value.int .i64 a1)] w R
noncomputable def stopcockref01_Flat.code : Code := (Try.f44.body).getD .skip
noncomputable def stopcockref01_Flat.sk (R : Ending → World → Prop) : Sk := .leaf
def stopcockref01_Flat.owed (R : Ending → World → Prop) : Prop :=
  True
theorem stopcockref01_Flat.pays (R : Ending → World → Prop) : stopcockref01_Flat.owed R := trivial
set_option maxRecDepth 100000 in
theorem stopcockref01_Flat.ok {a0r : Nat} {a0m : Nat} {a1 : Int} {w : World} {R : Ending → World → Prop} (h : stopcockref01_Flat.main a0r a0m a1 w R) : stopcockref01_Flat.C a0r a0m a1 w R :=
  ev_ok cxok (c := cx) Try.func44 (code := stopcockref01_Flat.code) (by kernel_rfl) [.tmp 4, .tmp 5] (by kernel_rfl) 32 (by kernel_rfl) (stopcockref01_Flat.sk R) (args := [(Value.complex .f64 a0r a0m), (Value.int .i64 a1)]) (Nat.le_of_ble_eq_true rfl) (by kernel_rfl) (o := stopcockref01_Flat.owed R) (by kernel_rfl) (stopcockref01_Flat.pays R) h

/-! ### stopcock/stopcockref03.Sum: function 45 -/
def stopcockref03_Sum.main (a0p : Option Addr) (a0n : Nat) (a0c : Nat) (w : World) (R : Ending → World → Prop) : Prop :=
  callP Try.prog 65 #[(Value.int .u32 0), (Value.slice a0p a0n a0c)] w (fun v1 w1 =>
    dI .u32 v1 fun x1 =>
    R (.returned (Value.int .u32 x1)) w1) (fun ch w2 => R (.panicked ch) w2)
abbrev stopcockref03_Sum.C (a0p : Option Addr) (a0n : Nat) (a0c : Nat) (w : World) (R : Ending → World → Prop) : Prop := Calls Try.prog 45 #[(Value.slice a0p a0n a0c)] w R
noncomputable def stopcockref03_Sum.code : Code := (Try.f45.body).getD .skip
noncomputable def stopcockref03_Sum.sk (R : Ending → World → Prop) : Sk := .leaf
def stopcockref03_Sum.owed (R : Ending → World → Prop) : Prop :=
  True
theorem stopcockref03_Sum.pays (R : Ending → World → Prop) : stopcockref03_Sum.owed R := trivial
set_option maxRecDepth 100000 in
theorem stopcockref03_Sum.ok {a0p : Option Addr} {a0n : Nat} {a0c : Nat} {w : World} {R : Ending → World → Prop} (h : stopcockref03_Sum.main a0p a0n a0c w R) : stopcockref03_Sum.C a0p a0n a0c w R :=
  ev_ok cxok (c := cx) Try.func45 (code := stopcockref03_Sum.code) (by kernel_rfl) [.tmp 2] (by kernel_rfl) 5 (by kernel_rfl) (stopcockref03_Sum.sk R) (args := [(Value.slice a0p a0n a0c)]) (Nat.le_of_ble_eq_true rfl) (by kernel_rfl) (o := stopcockref03_Sum.owed R) (by kernel_rfl) (stopcockref03_Sum.pays R) h

/-! ### bytes.Clone: function 46 -/
def bytes_Clone.main (a0p : Option Addr) (a0n : Nat) (a0c : Nat) (w : World) (R : Ending → World → Prop) : Prop :=
  cond (Option.isNone a0p) (
    R (.returned (Value.slice none 0 0)) w) (
    newP w #[] 5 fun b1 w1 =>
    appP w1 (some ⟨b1, 0, none⟩) 0 0 a0n (CellsO w1 a0p) 5 1 1 #[(Value.int .u8 0)] fun p1 c1 w2 =>
    R (.returned (Value.slice p1 (0 + a0n) c1)) w2)
abbrev bytes_Clone.C (a0p : Option Addr) (a0n : Nat) (a0c : Nat) (w : World) (R : Ending → World → Prop) : Prop := Calls Try.prog 46 #[(Value.slice a0p a0n a0c)] w R
noncomputable def bytes_Clone.code : Code := (Try.f46.body).getD .skip
noncomputable def bytes_Clone.sk (R : Ending → World → Prop) : Sk := .leaf
def bytes_Clone.owed (R : Ending → World → Prop) : Prop :=
  True
theorem bytes_Clone.pays (R : Ending → World → Prop) : bytes_Clone.owed R := trivial
set_option maxRecDepth 100000 in
theorem bytes_Clone.ok {a0p : Option Addr} {a0n : Nat} {a0c : Nat} {w : World} {R : Ending → World → Prop} (h : bytes_Clone.main a0p a0n a0c w R) : bytes_Clone.C a0p a0n a0c w R :=
  ev_ok cxok (c := cx) Try.func46 (code := bytes_Clone.code) (by kernel_rfl) [.tmp 2] (by kernel_rfl) 8 (by kernel_rfl) (bytes_Clone.sk R) (args := [(Value.slice a0p a0n a0c)]) (Nat.le_of_ble_eq_true rfl) (by kernel_rfl) (o := bytes_Clone.owed R) (by kernel_rfl) (bytes_Clone.pays R) h

/-! ### stopcock/owner.Fit: function 48 -/
def owner_Fit.main (a0 : Array Value) (a1_0 : Int) (a1_1 : Int) (w : World) (R : Ending → World → Prop) : Prop :=
  newP w a0 32 fun b1 w1 =>
  newP w1 #[(Value.int .i64 a1_0), (Value.int .i64 a1_1)] 34 fun b2 w2 =>
  ∃ (cs1 : Array Value), cs1.size = 24 ∧ CellsAt w2 (⟨b1, 0, none⟩ : Addr) cs1.toList ∧
  (∃ (cs2 : Array Value), cs2.size = 2 ∧ CellsAt w2 (⟨b2, 0, none⟩ : Addr) cs2.toList ∧
    (callP Try.prog 66 #[(Value.agg cs1), (Value.agg cs2)] w2 (fun v1 w3 =>
        dI .i64 v1 fun x1 =>
        cond (x1 != 0) (
          R (.returned (Value.int .i64 x1)) w3) (
          ∃ (cs3 : Array Value), cs3.size = 2 ∧ CellsAt w3 (⟨b2, 0, none⟩ : Addr) cs3.toList ∧
          (callP Try.prog 67 #[(Value.agg cs3)] w3 (fun v2 w5 =>
              dT v2 fun vs1 =>
              optP (vs1[0]?) fun v3 =>
              dI .i64 v3 fun x2 =>
              optP (vs1[1]?) fun v4 =>
              dI .i64 v4 fun x3 =>
              ∃ (cs4 : Array Value), cs4.size = 24 ∧ CellsAt w5 (⟨b1, 0, none⟩ : Addr) cs4.toList ∧
              (callP Try.prog 68 #[(Value.agg cs4)] w5 (fun v5 w7 =>
                  dM v5 fun r1 =>
                  mlenP w7 r1 fun x4 =>
                  cond (decide (x4 > x2)) (
                    R (.returned (Value.int .i64 9)) w7) (
                    R (.returned (Value.int .i64 0)) w7)) (fun ch w8 => R (.panicked ch) w8))) (fun ch w6 => R (.panicked ch) w6)))) (fun ch w4 => R (.panicked ch) w4)))
abbrev owner_Fit.C (a0 : Array Value) (a1_0 : Int) (a1_1 : Int) (w : World) (R : Ending → World → Prop) : Prop := Calls Try.prog 48 #[(Value.agg a0), (Value.agg #[(Value.int .i64 a1_0), (Value.int .i64 a1_1)])] w R
noncomputable def owner_Fit.code : Code := (Try.f48.body).getD .skip
noncomputable def owner_Fit.sk (R : Ending → World → Prop) : Sk := .leaf
def owner_Fit.owed (R : Ending → World → Prop) : Prop :=
  True
theorem owner_Fit.pays (R : Ending → World → Prop) : owner_Fit.owed R := trivial
set_option maxRecDepth 100000 in
theorem owner_Fit.ok {a0 : Array Value} {a1_0 : Int} {a1_1 : Int} {w : World} {R : Ending → World → Prop} (h : owner_Fit.main a0 a1_0 a1_1 w R) : owner_Fit.C a0 a1_0 a1_1 w R :=
  ev_ok cxok (c := cx) Try.func48 (code := owner_Fit.code) (by kernel_rfl) [.tmp 4] (by kernel_rfl) 24 (by kernel_rfl) (owner_Fit.sk R) (args := [(Value.agg a0), (Value.agg #[(Value.int .i64 a1_0), (Value.int .i64 a1_1)])]) (Nat.le_of_ble_eq_true rfl) (by kernel_rfl) (o := owner_Fit.owed R) (by kernel_rfl) (owner_Fit.pays R) h

/-! ### stopcock/leaf.payload: function 49 -/
def leaf_payload.b2 (t2 : Nat) (t3 : Nat) (t5p : Option Addr) (t5n : Nat) (t5c : Nat) (t12 : Array Value) (t13 : Int) (t27p : Option Addr) (t27n : Nat) (t27c : Nat) (t28 : Int) (t29 : Int) (w : World) (R : Ending → World → Prop) (C1 : Nat → Nat → Option Addr → Nat → Nat → Array Value → Int → World → Prop) (C2 : Nat → Nat → Option Addr → Nat → Nat → Array Value → Int → Option Addr → Nat → Nat → Int → Int → World → Prop) : Prop :=
  cond (decide (t29 < t28)) (
    chk (decide (0 ≤ t29)) (
      chk (decide (t29 < ((t27n : Nat) : Int))) (
        optP t27p fun d1 =>
        ∃ (r1 : Nat) (m1 : Nat), w.cell? (d1.add (t29.toNat * 1)) = some (Value.complex .f64 r1 m1) ∧
        (cond (!(fCmp .eql r1 13830554455654793216 && fCmp .eql m1 0)) (
            ∃ (x3 : Int), w.cell? (⟨t3, 1, none⟩ : Addr) = some (Value.int .i64 x3) ∧
            (callP Try.prog 69 #[(Value.complex .f64 r1 m1), (Value.int .i64 x3)] w (fun v2 w8 =>
                dT v2 fun vs1 =>
                optP (vs1[0]?) fun v3 =>
                dI .i64 v3 fun x4 =>
                optP (vs1[1]?) fun v4 =>
                dI .i64 v4 fun x5 =>
                newP w8 #[(Value.int .i64 (IntKind.i64.wrap (x4 + 1)))] 3 fun b5 w10 =>
                callP Try.prog 52 #[(Value.slice t5p t5n t5c), (Value.int .i64 2), (Value.slice (some ⟨b5, 0, none⟩) 1 1)] w10 (fun v5 w11 =>
                  dS v5 fun p3 n3 c3 =>
                  C2 t2 t3 p3 n3 c3 t12 t13 t27p t27n t27c t28 (IntKind.i64.wrap (t29 + 1)) w11) (fun ch w12 => R (.panicked ch) w12)) (fun ch w9 => R (.panicked ch) w9))) (
            newP w #[(Value.int .i64 0)] 3 fun b6 w13 =>
            callP Try.prog 52 #[(Value.slice t5p t5n t5c), (Value.int .i64 2), (Value.slice (some ⟨b6, 0, none⟩) 1 1)] w13 (fun v6 w14 =>
              dS v6 fun p4 n4 c4 =>
              C2 t2 t3 p4 n4 c4 t12 t13 t27p t27n t27c t28 (IntKind.i64.wrap (t29 + 1)) w14) (fun ch w15 => R (.panicked ch) w15)))))) (
    C1 t2 t3 t5p t5n t5c t12 (IntKind.i64.wrap (t13 + 1)) w)
def leaf_payload.l2 (t2 : Nat) (t3 : Nat) (t5p : Option Addr) (t5n : Nat) (t5c : Nat) (t12 : Array Value) (t13 : Int) (t27p : Option Addr) (t27n : Nat) (t27c : Nat) (t28 : Int) (t29 : Int) (w : World) (R : Ending → World → Prop) (C1 : Nat → Nat → Option Addr → Nat → Nat → Array Value → Int → World → Prop) : Prop :=
  ∃ (I : Nat → Nat → Option Addr → Nat → Nat → Array Value → Int → Option Addr → Nat → Nat → Int → Int → World → Prop) (m : Nat → Nat → Option Addr → Nat → Nat → Array Value → Int → Option Addr → Nat → Nat → Int → Int → World → Nat), I t2 t3 t5p t5n t5c t12 t13 t27p t27n t27c t28 t29 w ∧
  ∀ (t2 : Nat) (t3 : Nat) (t5p : Option Addr) (t5n : Nat) (t5c : Nat) (t12 : Array Value) (t13 : Int) (t27p : Option Addr) (t27n : Nat) (t27c : Nat) (t28 : Int) (t29 : Int) (w : World), I t2 t3 t5p t5n t5c t12 t13 t27p t27n t27c t28 t29 w →
  leaf_payload.b2 t2 t3 t5p t5n t5c t12 t13 t27p t27n t27c t28 t29 w R C1 (fun t2' t3' t5p' t5n' t5c' t12' t13' t27p' t27n' t27c' t28' t29' w' => I t2' t3' t5p' t5n' t5c' t12' t13' t27p' t27n' t27c' t28' t29' w' ∧ m t2' t3' t5p' t5n' t5c' t12' t13' t27p' t27n' t27c' t28' t29' w' < m t2 t3 t5p t5n t5c t12 t13 t27p t27n t27c t28 t29 w)
def leaf_payload.b1 (t2 : Nat) (t3 : Nat) (t5p : Option Addr) (t5n : Nat) (t5c : Nat) (t12 : Array Value) (t13 : Int) (w : World) (R : Ending → World → Prop) (C1 : Nat → Nat → Option Addr → Nat → Nat → Array Value → Int → World → Prop) : Prop :=
  cond (decide (t13 < 8)) (
    chk (decide (0 ≤ t13)) (
      chk (decide (t13 < (8 : Int))) (
        newP w #[(Value.int .i64 0), (Value.int .i64 0)] 27 fun b3 w3 =>
        chk (decide ((t12.extract (t13.toNat * 2) ((t13.toNat * 2) + 2)).size = 2)) (
          Wr w3 (⟨b3, 0, none⟩ : Addr) ((t12.extract (t13.toNat * 2) ((t13.toNat * 2) + 2)).toList) ∧ ∀ w4, w4 = w3.setCells (⟨b3, 0, none⟩ : Addr).block (⟨b3, 0, none⟩ : Addr).off ((t12.extract (t13.toNat * 2) ((t13.toNat * 2) + 2)).toList) →
          (∃ (x1 : Int), w4.cell? (⟨b3, 0, none⟩ : Addr) = some (Value.int .i64 x1) ∧
            (∃ (x2 : Int), w4.cell? (⟨b3, 1, none⟩ : Addr) = some (Value.int .i64 x2) ∧
              (newP w4 #[(Value.int .i64 x1), (Value.int .i64 x2)] 3 fun b4 w5 =>
                callP Try.prog 52 #[(Value.slice t5p t5n t5c), (Value.int .i64 1), (Value.slice (some ⟨b4, 0, none⟩) 2 2)] w5 (fun v1 w6 =>
                  dS v1 fun p1 n1 c1 =>
                  chk (decide (0 ≤ t13)) (
                    chk (decide (t13 < (8 : Int))) (
                      ∃ (p2 : Option Addr) (n2 : Nat) (c2 : Nat), w6.cell? ((⟨t2, 16, none⟩ : Addr).add (t13.toNat * 1)) = some (Value.slice p2 n2 c2) ∧
                      (leaf_payload.l2 t2 t3 p1 n1 c1 t12 t13 p2 n2 c2 ((n2 : Nat) : Int) 0 w6 R C1)))) (fun ch w7 => R (.panicked ch) w7)))))))) (
    R (.returned (Value.slice t5p t5n t5c)) w)
def leaf_payload.l1 (t2 : Nat) (t3 : Nat) (t5p : Option Addr) (t5n : Nat) (t5c : Nat) (t12 : Array Value) (t13 : Int) (w : World) (R : Ending → World → Prop) : Prop :=
  ∃ (I : Nat → Nat → Option Addr → Nat → Nat → Array Value → Int → World → Prop) (m : Nat → Nat → Option Addr → Nat → Nat → Array Value → Int → World → Nat), I t2 t3 t5p t5n t5c t12 t13 w ∧
  ∀ (t2 : Nat) (t3 : Nat) (t5p : Option Addr) (t5n : Nat) (t5c : Nat) (t12 : Array Value) (t13 : Int) (w : World), I t2 t3 t5p t5n t5c t12 t13 w →
  leaf_payload.b1 t2 t3 t5p t5n t5c t12 t13 w R (fun t2' t3' t5p' t5n' t5c' t12' t13' w' => I t2' t3' t5p' t5n' t5c' t12' t13' w' ∧ m t2' t3' t5p' t5n' t5c' t12' t13' w' < m t2 t3 t5p t5n t5c t12 t13 w)
def leaf_payload.main (a0 : Array Value) (a1_0 : Int) (a1_1 : Int) (w : World) (R : Ending → World → Prop) : Prop :=
  newP w a0 32 fun b1 w1 =>
  newP w1 #[(Value.int .i64 a1_0), (Value.int .i64 a1_1)] 34 fun b2 w2 =>
  ∃ (cs1 : Array Value), cs1.size = 16 ∧ CellsAt w2 (⟨b1, 0, none⟩ : Addr) cs1.toList ∧
  (leaf_payload.l1 b1 b2 none 0 0 cs1 0 w2 R)
abbrev leaf_payload.C (a0 : Array Value) (a1_0 : Int) (a1_1 : Int) (w : World) (R : Ending → World → Prop) : Prop := Calls Try.prog 49 #[(Value.agg a0), (Value.agg #[(Value.int .i64 a1_0), (Value.int .i64 a1_1)])] w R
noncomputable def leaf_payload.code : Code := (Try.f49.body).getD .skip
noncomputable def leaf_payload.sk (R : Ending → World → Prop) : Sk := (.seq .leaf (.seq .leaf (.seq (.seq .leaf (.block (.loop [(2, .blk), (3, .blk), (5, .slice), (12, .agg), (13, .int .i64)] (fun (t2 : Nat) (t3 : Nat) (t5p : Option Addr) (t5n : Nat) (t5c : Nat) (t12 : Array Value) (t13 : Int) (w : World) => leaf_payload.l1 t2 t3 t5p t5n t5c t12 t13 w R) (fun (C1 : Nat → Nat → Option Addr → Nat → Nat → Array Value → Int → World → Prop) => (.seq .leaf (.seq .leaf (.seq (.block (.seq .leaf (.seq .leaf (.seq .leaf (.block (.loop [(2, .blk), (3, .blk), (5, .slice), (12, .agg), (13, .int .i64), (27, .slice), (28, .int .i64), (29, .int .i64)] (fun (t2 : Nat) (t3 : Nat) (t5p : Option Addr) (t5n : Nat) (t5c : Nat) (t12 : Array Value) (t13 : Int) (t27p : Option Addr) (t27n : Nat) (t27c : Nat) (t28 : Int) (t29 : Int) (w : World) => leaf_payload.l2 t2 t3 t5p t5n t5c t12 t13 t27p t27n t27c t28 t29 w R C1) (fun (C2 : Nat → Nat → Option Addr → Nat → Nat → Array Value → Int → Option Addr → Nat → Nat → Int → Int → World → Prop) => .leaf))))))) .leaf))))))) .leaf)))
def leaf_payload.owed (R : Ending → World → Prop) : Prop :=
  (∀ (t2 : Nat) (t3 : Nat) (t5p : Option Addr) (t5n : Nat) (t5c : Nat) (t12 : Array Value) (t13 : Int) (w : World), leaf_payload.l1 t2 t3 t5p t5n t5c t12 t13 w R → leaf_payload.l1 t2 t3 t5p t5n t5c t12 t13 w R) ∧ (∀ (C1 : Nat → Nat → Option Addr → Nat → Nat → Array Value → Int → World → Prop), (∀ (t2 : Nat) (t3 : Nat) (t5p : Option Addr) (t5n : Nat) (t5c : Nat) (t12 : Array Value) (t13 : Int) (t27p : Option Addr) (t27n : Nat) (t27c : Nat) (t28 : Int) (t29 : Int) (w : World), leaf_payload.l2 t2 t3 t5p t5n t5c t12 t13 t27p t27n t27c t28 t29 w R C1 → leaf_payload.l2 t2 t3 t5p t5n t5c t12 t13 t27p t27n t27c t28 t29 w R C1) ∧ (∀ (C2 : Nat → Nat → Option Addr → Nat → Nat → Array Value → Int → Option Addr → Nat → Nat → Int → Int → World → Prop), True) ∧ True) ∧ True
theorem leaf_payload.pays (R : Ending → World → Prop) : leaf_payload.owed R := ⟨(fun _ _ _ _ _ _ _ _ h => h), (fun _ => ⟨(fun _ _ _ _ _ _ _ _ _ _ _ _ _ h => h), (fun _ => trivial), trivial⟩), trivial⟩
set_option maxRecDepth 100000 in
theorem leaf_payload.ok {a0 : Array Value} {a1_0 : Int} {a1_1 : Int} {w : World} {R : Ending → World → Prop} (h : leaf_payload.main a0 a1_0 a1_1 w R) : leaf_payload.C a0 a1_0 a1_1 w R :=
  ev_ok cxok (c := cx) Try.func49 (code := leaf_payload.code) (by kernel_rfl) [.tmp 4] (by kernel_rfl) 51 (by kernel_rfl) (leaf_payload.sk R) (args := [(Value.agg a0), (Value.agg #[(Value.int .i64 a1_0), (Value.int .i64 a1_1)])]) (Nat.le_of_ble_eq_true rfl) (by kernel_rfl) (o := leaf_payload.owed R) (by kernel_rfl) (leaf_payload.pays R) h

/-! ### slices.Chunk[[]byte,byte]: function 50 -/
def slices_Chunk_byte_byte.main (a0p : Option Addr) (a0n : Nat) (a0c : Nat) (a1 : Int) (w : World) (R : Ending → World → Prop) : Prop :=
  newP w #[(Value.slice a0p a0n a0c)] 44 fun b1 w1 =>
  newP w1 #[(Value.int .i64 a1)] 3 fun b2 w2 =>
  ∃ (x1 : Int), w2.cell? (⟨b2, 0, none⟩ : Addr) = some (Value.int .i64 x1) ∧
  (cond (decide (x1 < 1)) (
      R (.panicked [{ v := (Value.iface 9 (Value.string (⟨#[99, 97, 110, 110, 111, 116, 32, 98, 101, 32, 108, 101, 115, 115, 32, 116, 104, 97, 110, 32, 49]⟩ : ByteArray))), recovered := false }]) w2) (
      R (.returned (Value.func (.func 70) #[] #[(Value.pointer (some (⟨b1, 0, none⟩ : Addr))), (Value.pointer (some (⟨b2, 0, none⟩ : Addr)))])) w2))
abbrev slices_Chunk_byte_byte.C (a0p : Option Addr) (a0n : Nat) (a0c : Nat) (a1 : Int) (w : World) (R : Ending → World → Prop) : Prop := Calls Try.prog 50 #[(Value.slice a0p a0n a0c), (Value.int .i64 a1)] w R
noncomputable def slices_Chunk_byte_byte.code : Code := (Try.f50.body).getD .skip
noncomputable def slices_Chunk_byte_byte.sk (R : Ending → World → Prop) : Sk := .leaf
def slices_Chunk_byte_byte.owed (R : Ending → World → Prop) : Prop :=
  True
theorem slices_Chunk_byte_byte.pays (R : Ending → World → Prop) : slices_Chunk_byte_byte.owed R := trivial
set_option maxRecDepth 100000 in
theorem slices_Chunk_byte_byte.ok {a0p : Option Addr} {a0n : Nat} {a0c : Nat} {a1 : Int} {w : World} {R : Ending → World → Prop} (h : slices_Chunk_byte_byte.main a0p a0n a0c a1 w R) : slices_Chunk_byte_byte.C a0p a0n a0c a1 w R :=
  ev_ok cxok (c := cx) Try.func50 (code := slices_Chunk_byte_byte.code) (by kernel_rfl) [.tmp 4] (by kernel_rfl) 9 (by kernel_rfl) (slices_Chunk_byte_byte.sk R) (args := [(Value.slice a0p a0n a0c), (Value.int .i64 a1)]) (Nat.le_of_ble_eq_true rfl) (by kernel_rfl) (o := slices_Chunk_byte_byte.owed R) (by kernel_rfl) (slices_Chunk_byte_byte.pays R) h

/-! ### stopcock/leaf.sealed: function 51 -/
def leaf_sealed.main (a0p : Option Addr) (a0n : Nat) (a0c : Nat) (w : World) (R : Ending → World → Prop) : Prop :=
  callP Try.prog 57 #[(Value.slice a0p a0n a0c)] w (fun v1 w1 =>
    dT v1 fun vs1 =>
    optP (vs1[0]?) fun v2 =>
    dS v2 fun p1 n1 c1 =>
    optP (vs1[1]?) fun v3 =>
    dI .i64 v3 fun x1 =>
    R (.returned (Value.slice p1 n1 c1)) w1) (fun ch w2 => R (.panicked ch) w2)
abbrev leaf_sealed.C (a0p : Option Addr) (a0n : Nat) (a0c : Nat) (w : World) (R : Ending → World → Prop) : Prop := Calls Try.prog 51 #[(Value.slice a0p a0n a0c)] w R
noncomputable def leaf_sealed.code : Code := (Try.f51.body).getD .skip
noncomputable def leaf_sealed.sk (R : Ending → World → Prop) : Sk := .leaf
def leaf_sealed.owed (R : Ending → World → Prop) : Prop :=
  True
theorem leaf_sealed.pays (R : Ending → World → Prop) : leaf_sealed.owed R := trivial
set_option maxRecDepth 100000 in
theorem leaf_sealed.ok {a0p : Option Addr} {a0n : Nat} {a0c : Nat} {w : World} {R : Ending → World → Prop} (h : leaf_sealed.main a0p a0n a0c w R) : leaf_sealed.C a0p a0n a0c w R :=
  ev_ok cxok (c := cx) Try.func51 (code := leaf_sealed.code) (by kernel_rfl) [.tmp 2] (by kernel_rfl) 11 (by kernel_rfl) (leaf_sealed.sk R) (args := [(Value.slice a0p a0n a0c)]) (Nat.le_of_ble_eq_true rfl) (by kernel_rfl) (o := leaf_sealed.owed R) (by kernel_rfl) (leaf_sealed.pays R) h

/-! ### stopcock/leaf.put: function 52 -/
def leaf_put.main (a0p : Option Addr) (a0n : Nat) (a0c : Nat) (a1 : Int) (a2p : Option Addr) (a2n : Nat) (a2c : Nat) (w : World) (R : Ending → World → Prop) : Prop :=
  callP Try.prog 71 #[(Value.int .i64 a1), (Value.slice a2p a2n a2c)] w (fun v1 w1 =>
    dT v1 fun vs1 =>
    optP (vs1[0]?) fun v2 =>
    dS v2 fun p1 n1 c1 =>
    optP (vs1[1]?) fun v3 =>
    dI .i64 v3 fun x1 =>
    appP w1 a0p a0n a0c n1 (CellsO w1 p1) 5 1 1 #[(Value.int .u8 0)] fun p2 c2 w3 =>
    R (.returned (Value.slice p2 (a0n + n1) c2)) w3) (fun ch w2 => R (.panicked ch) w2)
abbrev leaf_put.C (a0p : Option Addr) (a0n : Nat) (a0c : Nat) (a1 : Int) (a2p : Option Addr) (a2n : Nat) (a2c : Nat) (w : World) (R : Ending → World → Prop) : Prop := Calls Try.prog 52 #[(Value.slice a0p a0n a0c), (Value.int .i64 a1), (Value.slice a2p a2n a2c)] w R
noncomputable def leaf_put.code : Code := (Try.f52.body).getD .skip
noncomputable def leaf_put.sk (R : Ending → World → Prop) : Sk := .leaf
def leaf_put.owed (R : Ending → World → Prop) : Prop :=
  True
theorem leaf_put.pays (R : Ending → World → Prop) : leaf_put.owed R := trivial
set_option maxRecDepth 100000 in
theorem leaf_put.ok {a0p : Option Addr} {a0n : Nat} {a0c : Nat} {a1 : Int} {a2p : Option Addr} {a2n : Nat} {a2c : Nat} {w : World} {R : Ending → World → Prop} (h : leaf_put.main a0p a0n a0c a1 a2p a2n a2c w R) : leaf_put.C a0p a0n a0c a1 a2p a2n a2c w R :=
  ev_ok cxok (c := cx) Try.func52 (code := leaf_put.code) (by kernel_rfl) [.tmp 6] (by kernel_rfl) 18 (by kernel_rfl) (leaf_put.sk R) (args := [(Value.slice a0p a0n a0c), (Value.int .i64 a1), (Value.slice a2p a2n a2c)]) (Nat.le_of_ble_eq_true rfl) (by kernel_rfl) (o := leaf_put.owed R) (by kernel_rfl) (leaf_put.pays R) h

/-! ### stopcock/seal.Sum: function 53 -/
def seal_Sum.main (a0p : Option Addr) (a0n : Nat) (a0c : Nat) (w : World) (R : Ending → World → Prop) : Prop :=
  callP Try.prog 72 #[(Value.int .u32 0), (Value.slice a0p a0n a0c)] w (fun v1 w1 =>
    dI .u32 v1 fun x1 =>
    R (.returned (Value.int .u32 x1)) w1) (fun ch w2 => R (.panicked ch) w2)
abbrev seal_Sum.C (a0p : Option Addr) (a0n : Nat) (a0c : Nat) (w : World) (R : Ending → World → Prop) : Prop := Calls Try.prog 53 #[(Value.slice a0p a0n a0c)] w R
noncomputable def seal_Sum.code : Code := (Try.f53.body).getD .skip
noncomputable def seal_Sum.sk (R : Ending → World → Prop) : Sk := .leaf
def seal_Sum.owed (R : Ending → World → Prop) : Prop :=
  True
theorem seal_Sum.pays (R : Ending → World → Prop) : seal_Sum.owed R := trivial
set_option maxRecDepth 100000 in
theorem seal_Sum.ok {a0p : Option Addr} {a0n : Nat} {a0c : Nat} {w : World} {R : Ending → World → Prop} (h : seal_Sum.main a0p a0n a0c w R) : seal_Sum.C a0p a0n a0c w R :=
  ev_ok cxok (c := cx) Try.func53 (code := seal_Sum.code) (by kernel_rfl) [.tmp 2] (by kernel_rfl) 5 (by kernel_rfl) (seal_Sum.sk R) (args := [(Value.slice a0p a0n a0c)]) (Nat.le_of_ble_eq_true rfl) (by kernel_rfl) (o := seal_Sum.owed R) (by kernel_rfl) (seal_Sum.pays R) h

/-! ### stopcock/stopcockref01.Parts: function 54 -/
def stopcockref01_Parts.main (a0r : Nat) (a0m : Nat) (w : World) (R : Ending → World → Prop) : Prop :=
  callP Try.prog 73 #[(Value.float .f64 a0r), (Value.int .i64 24)] w (fun v1 w1 =>
    dI .i64 v1 fun x1 =>
    callP Try.prog 73 #[(Value.float .f64 a0m), (Value.int .i64 16)] w1 (fun v2 w3 =>
      dI .i64 v2 fun x2 =>
      cond (decide (x1 < 0)) (
        R (.returned (Value.tuple #[(Value.int .i64 0), (Value.int .i64 0), (Value.int .i64 2)])) w3) (
        cond (decide (x2 < 0)) (
          R (.returned (Value.tuple #[(Value.int .i64 0), (Value.int .i64 0), (Value.int .i64 2)])) w3) (
          R (.returned (Value.tuple #[(Value.int .i64 x1), (Value.int .i64 x2), (Value.int .i64 0)])) w3))) (fun ch w4 => R (.panicked ch) w4)) (fun ch w2 => R (.panicked ch) w2)
abbrev stopcockref01_Parts.C (a0r : Nat) (a0m : Nat) (w : World) (R : Ending → World → Prop) : Prop := Calls Try.prog 54 #[(Value.complex .f64 a0r a0m)] w R
noncomputable def stopcockref01_Parts.code : Code := (Try.f54.body).getD .skip
noncomputable def stopcockref01_Parts.sk (R : Ending → World → Prop) : Sk := .leaf
def stopcockref01_Parts.owed (R : Ending → World → Prop) : Prop :=
  True
theorem stopcockref01_Parts.pays (R : Ending → World → Prop) : stopcockref01_Parts.owed R := trivial
set_option maxRecDepth 100000 in
theorem stopcockref01_Parts.ok {a0r : Nat} {a0m : Nat} {w : World} {R : Ending → World → Prop} (h : stopcockref01_Parts.main a0r a0m w R) : stopcockref01_Parts.C a0r a0m w R :=
  ev_ok cxok (c := cx) Try.func54 (code := stopcockref01_Parts.code) (by kernel_rfl) [.tmp 2, .tmp 3, .tmp 4] (by kernel_rfl) 21 (by kernel_rfl) (stopcockref01_Parts.sk R) (args := [(Value.complex .f64 a0r a0m)]) (Nat.le_of_ble_eq_true rfl) (by kernel_rfl) (o := stopcockref01_Parts.owed R) (by kernel_rfl) (stopcockref01_Parts.pays R) h

/-! ### stopcock/leaf.read$1: function 55 -/
def leaf_read_1.main (a0 : Int) (a1 : Int) (q0 : Nat) (w : World) (R : Ending → World → Prop) : Prop :=
  ∃ (p1 : Option Addr) (n1 : Nat) (c1 : Nat), w.cell? (⟨q0, 0, none⟩ : Addr) = some (Value.slice p1 n1 c1) ∧
  (callP Try.prog 56 #[(Value.slice p1 n1 c1), (Value.int .i64 a0), (Value.int .i64 a1)] w (fun v1 w1 =>
      dT v1 fun vs1 =>
      optP (vs1[0]?) fun v2 =>
      dI .i64 v2 fun x1 =>
      optP (vs1[1]?) fun v3 =>
      dI .i64 v3 fun x2 =>
      R (.returned (Value.int .i64 x1)) w1) (fun ch w2 => R (.panicked ch) w2))
abbrev leaf_read_1.C (a0 : Int) (a1 : Int) (q0 : Nat) (w : World) (R : Ending → World → Prop) : Prop := Calls Try.prog 55 #[(Value.int .i64 a0), (Value.int .i64 a1), (Value.pointer (some (⟨q0, 0, none⟩ : Addr)))] w R
noncomputable def leaf_read_1.code : Code := (Try.f55.body).getD .skip
noncomputable def leaf_read_1.sk (R : Ending → World → Prop) : Sk := .leaf
def leaf_read_1.owed (R : Ending → World → Prop) : Prop :=
  True
theorem leaf_read_1.pays (R : Ending → World → Prop) : leaf_read_1.owed R := trivial
set_option maxRecDepth 100000 in
theorem leaf_read_1.ok {a0 : Int} {a1 : Int} {q0 : Nat} {w : World} {R : Ending → World → Prop} (h : leaf_read_1.main a0 a1 q0 w R) : leaf_read_1.C a0 a1 q0 w R :=
  ev_ok cxok (c := cx) Try.func55 (code := leaf_read_1.code) (by kernel_rfl) [.tmp 5] (by kernel_rfl) 16 (by kernel_rfl) (leaf_read_1.sk R) (args := [(Value.int .i64 a0), (Value.int .i64 a1), (Value.pointer (some (⟨q0, 0, none⟩ : Addr)))]) (Nat.le_of_ble_eq_true rfl) (by kernel_rfl) (o := leaf_read_1.owed R) (by kernel_rfl) (leaf_read_1.pays R) h

/-! ### stopcock/cell.Get: function 56 -/
def cell_Get.main (a0p : Option Addr) (a0n : Nat) (a0c : Nat) (a1 : Int) (a2 : Int) (w : World) (R : Ending → World → Prop) : Prop :=
  callP Try.prog 74 #[(Value.int .i64 a2)] w (fun v1 w1 =>
    dB v1 fun b1 =>
    cond (!b1) (
      R (.returned (Value.tuple #[(Value.int .i64 0), (Value.int .i64 1)])) w1) (
      cond (decide (a1 < 0)) (
        R (.returned (Value.tuple #[(Value.int .i64 0), (Value.int .i64 3)])) w1) (
        cond (decide (a1 > (IntKind.i64.wrap (((a0n : Nat) : Int) - a2)))) (
          R (.returned (Value.tuple #[(Value.int .i64 0), (Value.int .i64 3)])) w1) (
          chk (decide (0 ≤ (IntKind.i64.wrap (a1 + a2)))) (
            chk (decide ((IntKind.i64.wrap (a1 + a2)) ≤ ((a0c : Nat) : Int))) (
              chk (decide (0 ≤ a1)) (
                chk (decide (a1 ≤ (((IntKind.i64.wrap (a1 + a2)).toNat : Nat) : Int))) (
                  callP Try.prog 75 #[(Value.slice (slA a0p a0c a1.toNat 1) ((IntKind.i64.wrap (a1 + a2)).toNat - a1.toNat) (a0c - a1.toNat))] w1 (fun v2 w3 =>
                    dI .i64 v2 fun x1 =>
                    R (.returned (Value.tuple #[(Value.int .i64 x1), (Value.int .i64 0)])) w3) (fun ch w4 => R (.panicked ch) w4))))))))) (fun ch w2 => R (.panicked ch) w2)
abbrev cell_Get.C (a0p : Option Addr) (a0n : Nat) (a0c : Nat) (a1 : Int) (a2 : Int) (w : World) (R : Ending → World → Prop) : Prop := Calls Try.prog 56 #[(Value.slice a0p a0n a0c), (Value.int .i64 a1), (Value.int .i64 a2)] w R
noncomputable def cell_Get.code : Code := (Try.f56.body).getD .skip
noncomputable def cell_Get.sk (R : Ending → World → Prop) : Sk := .leaf
def cell_Get.owed (R : Ending → World → Prop) : Prop :=
  True
theorem cell_Get.pays (R : Ending → World → Prop) : cell_Get.owed R := trivial
set_option maxRecDepth 100000 in
theorem cell_Get.ok {a0p : Option Addr} {a0n : Nat} {a0c : Nat} {a1 : Int} {a2 : Int} {w : World} {R : Ending → World → Prop} (h : cell_Get.main a0p a0n a0c a1 a2 w R) : cell_Get.C a0p a0n a0c a1 a2 w R :=
  ev_ok cxok (c := cx) Try.func56 (code := cell_Get.code) (by kernel_rfl) [.tmp 6, .tmp 7] (by kernel_rfl) 30 (by kernel_rfl) (cell_Get.sk R) (args := [(Value.slice a0p a0n a0c), (Value.int .i64 a1), (Value.int .i64 a2)]) (Nat.le_of_ble_eq_true rfl) (by kernel_rfl) (o := cell_Get.owed R) (by kernel_rfl) (cell_Get.pays R) h

/-! ### stopcock/seal.Close: function 57 -/
def seal_Close.main (a0p : Option Addr) (a0n : Nat) (a0c : Nat) (w : World) (R : Ending → World → Prop) : Prop :=
  cond (decide (((a0n : Nat) : Int) > 60)) (
    R (.returned (Value.tuple #[(Value.slice none 0 0), (Value.int .i64 6)])) w) (
    newP w (madeCells #[(Value.int .u8 0)] (64 * 1)) 5 fun b1 w1 =>
    copyP w1 (some ⟨b1, 0, none⟩) 60 a0p a0n 1 fun w2 =>
    callP Try.prog 53 #[(Value.slice (some ⟨b1, 0, none⟩) 60 64)] w2 (fun v1 w3 =>
      dI .u32 v1 fun x1 =>
      newP w3 #[(Value.int .u8 (IntKind.u8.wrap (Int.fdiv x1 (2 ^ (min 24 IntKind.u32.bits))))), (Value.int .u8 (IntKind.u8.wrap (Int.fdiv x1 (2 ^ (min 16 IntKind.u32.bits))))), (Value.int .u8 (IntKind.u8.wrap (Int.fdiv x1 (2 ^ (min 8 IntKind.u32.bits))))), (Value.int .u8 (IntKind.u8.wrap x1))] 5 fun b2 w5 =>
      appP w5 (some ⟨b1, 0, none⟩) 60 64 4 (CellsO w5 (some ⟨b2, 0, none⟩)) 5 1 1 #[(Value.int .u8 0)] fun p1 c1 w6 =>
      R (.returned (Value.tuple #[(Value.slice p1 (60 + 4) c1), (Value.int .i64 0)])) w6) (fun ch w4 => R (.panicked ch) w4))
abbrev seal_Close.C (a0p : Option Addr) (a0n : Nat) (a0c : Nat) (w : World) (R : Ending → World → Prop) : Prop := Calls Try.prog 57 #[(Value.slice a0p a0n a0c)] w R
noncomputable def seal_Close.code : Code := (Try.f57.body).getD .skip
noncomputable def seal_Close.sk (R : Ending → World → Prop) : Sk := .leaf
def seal_Close.owed (R : Ending → World → Prop) : Prop :=
  True
theorem seal_Close.pays (R : Ending → World → Prop) : seal_Close.owed R := trivial
set_option maxRecDepth 100000 in
theorem seal_Close.ok {a0p : Option Addr} {a0n : Nat} {a0c : Nat} {w : World} {R : Ending → World → Prop} (h : seal_Close.main a0p a0n a0c w R) : seal_Close.C a0p a0n a0c w R :=
  ev_ok cxok (c := cx) Try.func57 (code := seal_Close.code) (by kernel_rfl) [.tmp 2, .tmp 3] (by kernel_rfl) 29 (by kernel_rfl) (seal_Close.sk R) (args := [(Value.slice a0p a0n a0c)]) (Nat.le_of_ble_eq_true rfl) (by kernel_rfl) (o := seal_Close.owed R) (by kernel_rfl) (seal_Close.pays R) h

/-! ### bytes.Equal: function 58 -/
def bytes_Equal.main (a0p : Option Addr) (a0n : Nat) (a0c : Nat) (a1p : Option Addr) (a1n : Nat) (a1c : Nat) (w : World) (R : Ending → World → Prop) : Prop :=
  ∃ (ns1 : List Int), ns1.length = a0n ∧ CellsO w a0p (ns1.map (Value.int .u8)) ∧
  (∃ (ns2 : List Int), ns2.length = a1n ∧ CellsO w a1p (ns2.map (Value.int .u8)) ∧
    (R (.returned (Value.bool ((strOf ns1).toList == (strOf ns2).toList))) w))
abbrev bytes_Equal.C (a0p : Option Addr) (a0n : Nat) (a0c : Nat) (a1p : Option Addr) (a1n : Nat) (a1c : Nat) (w : World) (R : Ending → World → Prop) : Prop := Calls Try.prog 58 #[(Value.slice a0p a0n a0c), (Value.slice a1p a1n a1c)] w R
noncomputable def bytes_Equal.code : Code := (Try.f58.body).getD .skip
noncomputable def bytes_Equal.sk (R : Ending → World → Prop) : Sk := .leaf
def bytes_Equal.owed (R : Ending → World → Prop) : Prop :=
  True
theorem bytes_Equal.pays (R : Ending → World → Prop) : bytes_Equal.owed R := trivial
set_option maxRecDepth 100000 in
theorem bytes_Equal.ok {a0p : Option Addr} {a0n : Nat} {a0c : Nat} {a1p : Option Addr} {a1n : Nat} {a1c : Nat} {w : World} {R : Ending → World → Prop} (h : bytes_Equal.main a0p a0n a0c a1p a1n a1c w R) : bytes_Equal.C a0p a0n a0c a1p a1n a1c w R :=
  ev_ok cxok (c := cx) Try.func58 (code := bytes_Equal.code) (by kernel_rfl) [.tmp 4] (by kernel_rfl) 10 (by kernel_rfl) (bytes_Equal.sk R) (args := [(Value.slice a0p a0n a0c), (Value.slice a1p a1n a1c)]) (Nat.le_of_ble_eq_true rfl) (by kernel_rfl) (o := bytes_Equal.owed R) (by kernel_rfl) (bytes_Equal.pays R) h

/-! ### stopcock/cell.Unrow: function 59 -/
def cell_Unrow.b1 (t0p : Option Addr) (t0n : Nat) (t0c : Nat) (t1 : Int) (t6p : Option Addr) (t6n : Nat) (t6c : Nat) (w : World) (R : Ending → World → Prop) (C1 : Option Addr → Nat → Nat → Int → Option Addr → Nat → Nat → World → Prop) : Prop :=
  cond (decide (((t0n : Nat) : Int) > 0)) (
    chk (decide (0 ≤ t1)) (
      chk (decide (t1 ≤ ((t0c : Nat) : Int))) (
        callP Try.prog 75 #[(Value.slice (slA t0p t0c 0 1) t1.toNat t0c)] w (fun v2 w3 =>
          dI .i64 v2 fun x1 =>
          newP w3 #[(Value.int .i64 x1)] 3 fun b2 w5 =>
          appP w5 t6p t6n t6c 1 (CellsO w5 (some ⟨b2, 0, none⟩)) 3 1 8 #[(Value.int .i64 0)] fun p1 c1 w6 =>
          chk (decide (0 ≤ t1)) (
            chk (decide (t1 ≤ ((t0n : Nat) : Int))) (
              C1 (slA t0p t0c t1.toNat 1) (t0n - t1.toNat) (t0c - t1.toNat) t1 p1 (t6n + 1) c1 w6))) (fun ch w4 => R (.panicked ch) w4)))) (
    R (.returned (Value.tuple #[(Value.slice t6p t6n t6c), (Value.int .i64 0)])) w)
def cell_Unrow.l1 (t0p : Option Addr) (t0n : Nat) (t0c : Nat) (t1 : Int) (t6p : Option Addr) (t6n : Nat) (t6c : Nat) (w : World) (R : Ending → World → Prop) : Prop :=
  ∃ (I : Option Addr → Nat → Nat → Int → Option Addr → Nat → Nat → World → Prop) (m : Option Addr → Nat → Nat → Int → Option Addr → Nat → Nat → World → Nat), I t0p t0n t0c t1 t6p t6n t6c w ∧
  ∀ (t0p : Option Addr) (t0n : Nat) (t0c : Nat) (t1 : Int) (t6p : Option Addr) (t6n : Nat) (t6c : Nat) (w : World), I t0p t0n t0c t1 t6p t6n t6c w →
  cell_Unrow.b1 t0p t0n t0c t1 t6p t6n t6c w R (fun t0p' t0n' t0c' t1' t6p' t6n' t6c' w' => I t0p' t0n' t0c' t1' t6p' t6n' t6c' w' ∧ m t0p' t0n' t0c' t1' t6p' t6n' t6c' w' < m t0p t0n t0c t1 t6p t6n t6c w)
def cell_Unrow.main (a0p : Option Addr) (a0n : Nat) (a0c : Nat) (a1 : Int) (w : World) (R : Ending → World → Prop) : Prop :=
  callP Try.prog 74 #[(Value.int .i64 a1)] w (fun v1 w1 =>
    dB v1 fun b1 =>
    cond (!b1) (
      R (.returned (Value.tuple #[(Value.slice none 0 0), (Value.int .i64 1)])) w1) (
      chk (decide (a1 ≠ 0)) (
        cond ((Int.tmod ((a0n : Nat) : Int) a1) != 0) (
          R (.returned (Value.tuple #[(Value.slice none 0 0), (Value.int .i64 6)])) w1) (
          cell_Unrow.l1 a0p a0n a0c a1 none 0 0 w1 R)))) (fun ch w2 => R (.panicked ch) w2)
abbrev cell_Unrow.C (a0p : Option Addr) (a0n : Nat) (a0c : Nat) (a1 : Int) (w : World) (R : Ending → World → Prop) : Prop := Calls Try.prog 59 #[(Value.slice a0p a0n a0c), (Value.int .i64 a1)] w R
noncomputable def cell_Unrow.code : Code := (Try.f59.body).getD .skip
noncomputable def cell_Unrow.sk (R : Ending → World → Prop) : Sk := (.seq .leaf (.seq .leaf (.seq .leaf (.seq (.block (.loop [(0, .slice), (1, .int .i64), (6, .slice)] (fun (t0p : Option Addr) (t0n : Nat) (t0c : Nat) (t1 : Int) (t6p : Option Addr) (t6n : Nat) (t6c : Nat) (w : World) => cell_Unrow.l1 t0p t0n t0c t1 t6p t6n t6c w R) (fun (C1 : Option Addr → Nat → Nat → Int → Option Addr → Nat → Nat → World → Prop) => .leaf))) .leaf))))
def cell_Unrow.owed (R : Ending → World → Prop) : Prop :=
  (∀ (t0p : Option Addr) (t0n : Nat) (t0c : Nat) (t1 : Int) (t6p : Option Addr) (t6n : Nat) (t6c : Nat) (w : World), cell_Unrow.l1 t0p t0n t0c t1 t6p t6n t6c w R → cell_Unrow.l1 t0p t0n t0c t1 t6p t6n t6c w R) ∧ (∀ (C1 : Option Addr → Nat → Nat → Int → Option Addr → Nat → Nat → World → Prop), True) ∧ True
theorem cell_Unrow.pays (R : Ending → World → Prop) : cell_Unrow.owed R := ⟨(fun _ _ _ _ _ _ _ _ h => h), (fun _ => trivial), trivial⟩
set_option maxRecDepth 100000 in
theorem cell_Unrow.ok {a0p : Option Addr} {a0n : Nat} {a0c : Nat} {a1 : Int} {w : World} {R : Ending → World → Prop} (h : cell_Unrow.main a0p a0n a0c a1 w R) : cell_Unrow.C a0p a0n a0c a1 w R :=
  ev_ok cxok (c := cx) Try.func59 (code := cell_Unrow.code) (by kernel_rfl) [.tmp 4, .tmp 5] (by kernel_rfl) 31 (by kernel_rfl) (cell_Unrow.sk R) (args := [(Value.slice a0p a0n a0c), (Value.int .i64 a1)]) (Nat.le_of_ble_eq_true rfl) (by kernel_rfl) (o := cell_Unrow.owed R) (by kernel_rfl) (cell_Unrow.pays R) h

/-! ### stopcock/axis.Place: function 60 -/
def axis_Place.main (a0 : Int) (a1 : Int) (w : World) (R : Ending → World → Prop) : Prop :=
  callP Try.prog 76 #[(Value.int .i64 a1)] w (fun v1 w1 =>
    dB v1 fun b1 =>
    cond (!b1) (
      R (.returned (Value.tuple #[(Value.complex .f64 0 0), (Value.int .i64 1)])) w1) (
      cond (decide (a0 < 0)) (
        R (.returned (Value.tuple #[(Value.complex .f64 0 0), (Value.int .i64 5)])) w1) (
        cond (decide (a0 ≥ (IntKind.i64.wrap (24 * a1)))) (
          R (.returned (Value.tuple #[(Value.complex .f64 0 0), (Value.int .i64 5)])) w1) (
          chk (decide (a1 ≠ 0)) (
            chk (decide (a1 ≠ 0)) (
              ∀ k1 : Nat,
              R (.returned (Value.tuple #[(Value.complex .f64 (FloatKind.f64.nearest (IntKind.i64.wrap (Int.tdiv a0 a1))) (FloatKind.f64.nearest (Int.tmod a0 a1))), (Value.int .i64 0)])) (w1.drewN k1))))))) (fun ch w2 => R (.panicked ch) w2)
abbrev axis_Place.C (a0 : Int) (a1 : Int) (w : World) (R : Ending → World → Prop) : Prop := Calls Try.prog 60 #[(Value.int .i64 a0), (Value.int .i64 a1)] w R
noncomputable def axis_Place.code : Code := (Try.f60.body).getD .skip
noncomputable def axis_Place.sk (R : Ending → World → Prop) : Sk := .leaf
def axis_Place.owed (R : Ending → World → Prop) : Prop :=
  True
theorem axis_Place.pays (R : Ending → World → Prop) : axis_Place.owed R := trivial
set_option maxRecDepth 100000 in
theorem axis_Place.ok {a0 : Int} {a1 : Int} {w : World} {R : Ending → World → Prop} (h : axis_Place.main a0 a1 w R) : axis_Place.C a0 a1 w R :=
  ev_ok cxok (c := cx) Try.func60 (code := axis_Place.code) (by kernel_rfl) [.tmp 4, .tmp 5] (by kernel_rfl) 28 (by kernel_rfl) (axis_Place.sk R) (args := [(Value.int .i64 a0), (Value.int .i64 a1)]) (Nat.le_of_ble_eq_true rfl) (by kernel_rfl) (o := axis_Place.owed R) (by kernel_rfl) (axis_Place.pays R) h

/-! ### stopcock/stopcockref10.Within: function 61 -/
def stopcockref10_Within.b1 (t3 : Nat) (t5p : Option Addr) (t5n : Nat) (t5c : Nat) (t6 : Int) (w : World) (R : Ending → World → Prop) (C1 : Nat → Option Addr → Nat → Nat → Int → World → Prop) : Prop :=
  cond (decide (t6 < ((t5n : Nat) : Int))) (
    ∃ (cs4 : Array Value), cs4.size = 2 ∧ CellsAt w.drew (⟨t3, 0, none⟩ : Addr) cs4.toList ∧
    (chk (decide (0 ≤ t6)) (
        chk (decide (t6 < ((t5n : Nat) : Int))) (
          optP t5p fun d1 =>
          ∃ (r1 : Nat) (m1 : Nat), w.drew.cell? (d1.add (t6.toNat * 1)) = some (Value.complex .f64 r1 m1) ∧
          (callP Try.prog 79 #[(Value.agg cs4), (Value.complex .f64 r1 m1)] w.drew (fun v4 w9 =>
              dT v4 fun vs1 =>
              optP (vs1[0]?) fun v5 =>
              dI .i64 v5 fun x1 =>
              optP (vs1[1]?) fun v6 =>
              dI .i64 v6 fun x2 =>
              cond (x2 != 0) (
                R (.returned (Value.int .i64 5)) w9) (
                C1 t3 t5p t5n t5c (IntKind.i64.wrap (t6 + 1)) w9)) (fun ch w10 => R (.panicked ch) w10)))))) (
    R (.returned (Value.int .i64 0)) w)
def stopcockref10_Within.l1 (t3 : Nat) (t5p : Option Addr) (t5n : Nat) (t5c : Nat) (t6 : Int) (w : World) (R : Ending → World → Prop) : Prop :=
  ∃ (I : Nat → Option Addr → Nat → Nat → Int → World → Prop) (m : Nat → Option Addr → Nat → Nat → Int → World → Nat), I t3 t5p t5n t5c t6 w ∧
  ∀ (t3 : Nat) (t5p : Option Addr) (t5n : Nat) (t5c : Nat) (t6 : Int) (w : World), I t3 t5p t5n t5c t6 w →
  stopcockref10_Within.b1 t3 t5p t5n t5c t6 w R (fun t3' t5p' t5n' t5c' t6' w' => I t3' t5p' t5n' t5c' t6' w' ∧ m t3' t5p' t5n' t5c' t6' w' < m t3 t5p t5n t5c t6 w)
def stopcockref10_Within.main (a0 : Array Value) (a1_0 : Int) (a1_1 : Int) (w : World) (R : Ending → World → Prop) : Prop :=
  newP w a0 32 fun b1 w1 =>
  newP w1 #[(Value.int .i64 a1_0), (Value.int .i64 a1_1)] 34 fun b2 w2 =>
  ∃ (cs1 : Array Value), cs1.size = 2 ∧ CellsAt w2 (⟨b2, 0, none⟩ : Addr) cs1.toList ∧
  (callP Try.prog 77 #[(Value.agg cs1)] w2 (fun v1 w3 =>
      dB v1 fun b3 =>
      cond (!b3) (
        R (.returned (Value.int .i64 1)) w3) (
        ∃ (cs2 : Array Value), cs2.size = 24 ∧ CellsAt w3 (⟨b1, 0, none⟩ : Addr) cs2.toList ∧
        (callP Try.prog 13 #[(Value.agg cs2)] w3 (fun v2 w5 =>
            dB v2 fun b4 =>
            cond (!b4) (
              R (.returned (Value.int .i64 2)) w5) (
              ∃ (cs3 : Array Value), cs3.size = 24 ∧ CellsAt w5 (⟨b1, 0, none⟩ : Addr) cs3.toList ∧
              (callP Try.prog 78 #[(Value.agg cs3)] w5 (fun v3 w7 =>
                  dS v3 fun p1 n1 c1 =>
                  stopcockref10_Within.l1 b2 p1 n1 c1 0 w7 R) (fun ch w8 => R (.panicked ch) w8)))) (fun ch w6 => R (.panicked ch) w6)))) (fun ch w4 => R (.panicked ch) w4))
abbrev stopcockref10_Within.C (a0 : Array Value) (a1_0 : Int) (a1_1 : Int) (w : World) (R : Ending → World → Prop) : Prop := Calls Try.prog 61 #[(Value.agg a0), (Value.agg #[(Value.int .i64 a1_0), (Value.int .i64 a1_1)])] w R
noncomputable def stopcockref10_Within.code : Code := (Try.f61.body).getD .skip
noncomputable def stopcockref10_Within.sk (R : Ending → World → Prop) : Sk := (.seq .leaf (.seq .leaf (.seq .leaf (.seq .leaf (.seq (.seq .leaf (.block (.loop [(3, .blk), (5, .slice), (6, .int .i64)] (fun (t3 : Nat) (t5p : Option Addr) (t5n : Nat) (t5c : Nat) (t6 : Int) (w : World) => stopcockref10_Within.l1 t3 t5p t5n t5c t6 w R) (fun (C1 : Nat → Option Addr → Nat → Nat → Int → World → Prop) => .leaf)))) .leaf)))))
def stopcockref10_Within.owed (R : Ending → World → Prop) : Prop :=
  (∀ (t3 : Nat) (t5p : Option Addr) (t5n : Nat) (t5c : Nat) (t6 : Int) (w : World), stopcockref10_Within.l1 t3 t5p t5n t5c t6 w R → stopcockref10_Within.l1 t3 t5p t5n t5c t6 w R) ∧ (∀ (C1 : Nat → Option Addr → Nat → Nat → Int → World → Prop), True) ∧ True
theorem stopcockref10_Within.pays (R : Ending → World → Prop) : stopcockref10_Within.owed R := ⟨(fun _ _ _ _ _ _ h => h), (fun _ => trivial), trivial⟩
set_option maxRecDepth 100000 in
theorem stopcockref10_Within.ok {a0 : Array Value} {a1_0 : Int} {a1_1 : Int} {w : World} {R : Ending → World → Prop} (h : stopcockref10_Within.main a0 a1_0 a1_1 w R) : stopcockref10_Within.C a0 a1_0 a1_1 w R :=
  ev_ok cxok (c := cx) Try.func61 (code := stopcockref10_Within.code) (by kernel_rfl) [.tmp 4] (by kernel_rfl) 34 (by kernel_rfl) (stopcockref10_Within.sk R) (args := [(Value.agg a0), (Value.agg #[(Value.int .i64 a1_0), (Value.int .i64 a1_1)])]) (Nat.le_of_ble_eq_true rfl) (by kernel_rfl) (o := stopcockref10_Within.owed R) (by kernel_rfl) (stopcockref10_Within.pays R) h

/-! ### stopcock/stopcockref10.Places: function 62 -/
def stopcockref10_Places.main (a0 : Array Value) (w : World) (R : Ending → World → Prop) : Prop :=
  newP w a0 32 fun b1 w1 =>
  ∃ (cs1 : Array Value), cs1.size = 24 ∧ CellsAt w1 (⟨b1, 0, none⟩ : Addr) cs1.toList ∧
  (callP Try.prog 78 #[(Value.agg cs1)] w1 (fun v1 w2 =>
      dS v1 fun p1 n1 c1 =>
      callP Try.prog 80 #[(Value.slice p1 n1 c1)] w2 (fun v2 w4 =>
        dT v2 fun vs1 =>
        optP (vs1[0]?) fun v3 =>
        dS v3 fun p2 n2 c2 =>
        optP (vs1[1]?) fun v4 =>
        dI .i64 v4 fun x1 =>
        R (.returned (Value.slice p2 n2 c2)) w4) (fun ch w5 => R (.panicked ch) w5)) (fun ch w3 => R (.panicked ch) w3))
abbrev stopcockref10_Places.C (a0 : Array Value) (w : World) (R : Ending → World → Prop) : Prop := Calls Try.prog 62 #[(Value.agg a0)] w R
noncomputable def stopcockref10_Places.code : Code := (Try.f62.body).getD .skip
noncomputable def stopcockref10_Places.sk (R : Ending → World → Prop) : Sk := .leaf
def stopcockref10_Places.owed (R : Ending → World → Prop) : Prop :=
  True
theorem stopcockref10_Places.pays (R : Ending → World → Prop) : stopcockref10_Places.owed R := trivial
set_option maxRecDepth 100000 in
theorem stopcockref10_Places.ok {a0 : Array Value} {w : World} {R : Ending → World → Prop} (h : stopcockref10_Places.main a0 w R) : stopcockref10_Places.C a0 w R :=
  ev_ok cxok (c := cx) Try.func62 (code := stopcockref10_Places.code) (by kernel_rfl) [.tmp 2] (by kernel_rfl) 12 (by kernel_rfl) (stopcockref10_Places.sk R) (args := [(Value.agg a0)]) (Nat.le_of_ble_eq_true rfl) (by kernel_rfl) (o := stopcockref10_Places.owed R) (by kernel_rfl) (stopcockref10_Places.pays R) h

/-! ### stopcock/stopcockref06.Capacity: function 63 -/
def stopcockref06_Capacity.main (a0_0 : Int) (a0_1 : Int) (w : World) (R : Ending → World → Prop) : Prop :=
  newP w #[(Value.int .i64 a0_0), (Value.int .i64 a0_1)] 34 fun b1 w1 =>
  ∃ (x1 : Int), w1.cell? (⟨b1, 0, none⟩ : Addr) = some (Value.int .i64 x1) ∧
  (∃ (x2 : Int), w1.cell? (⟨b1, 1, none⟩ : Addr) = some (Value.int .i64 x2) ∧
    (R (.returned (Value.int .i64 (IntKind.i64.wrap ((IntKind.i64.wrap (x1 - 4)) * x2)))) w1))
abbrev stopcockref06_Capacity.C (a0_0 : Int) (a0_1 : Int) (w : World) (R : Ending → World → Prop) : Prop := Calls Try.prog 63 #[(Value.agg #[(Value.int .i64 a0_0), (Value.int .i64 a0_1)])] w R
noncomputable def stopcockref06_Capacity.code : Code := (Try.f63.body).getD .skip
noncomputable def stopcockref06_Capacity.sk (R : Ending → World → Prop) : Sk := .leaf
def stopcockref06_Capacity.owed (R : Ending → World → Prop) : Prop :=
  True
theorem stopcockref06_Capacity.pays (R : Ending → World → Prop) : stopcockref06_Capacity.owed R := trivial
set_option maxRecDepth 100000 in
theorem stopcockref06_Capacity.ok {a0_0 : Int} {a0_1 : Int} {w : World} {R : Ending → World → Prop} (h : stopcockref06_Capacity.main a0_0 a0_1 w R) : stopcockref06_Capacity.C a0_0 a0_1 w R :=
  ev_ok cxok (c := cx) Try.func63 (code := stopcockref06_Capacity.code) (by kernel_rfl) [.tmp 2] (by kernel_rfl) 9 (by kernel_rfl) (stopcockref06_Capacity.sk R) (args := [(Value.agg #[(Value.int .i64 a0_0), (Value.int .i64 a0_1)])]) (Nat.le_of_ble_eq_true rfl) (by kernel_rfl) (o := stopcockref06_Capacity.owed R) (by kernel_rfl) (stopcockref06_Capacity.pays R) h

/-! ### stopcock/stopcockref04.Put: function 64 -/
def stopcockref04_Put.b1 (t2 : Int) (t8p : Option Addr) (t8n : Nat) (t8c : Nat) (t9 : Int) (w : World) (R : Ending → World → Prop) (C1 : Int → Option Addr → Nat → Nat → Int → World → Prop) : Prop :=
  cond (decide (t9 ≥ 0)) (
    callP Try.prog 81 #[(Value.int .i64 t9)] w (fun v2 w5 =>
      dI .i64 v2 fun x2 =>
      chk (decide (x2 ≠ 0)) (
        newP w5 #[(Value.int .u8 (IntKind.u8.wrap (Int.tmod (IntKind.i64.wrap (Int.tdiv t2 x2)) 256)))] 5 fun b2 w7 =>
        appP w7 t8p t8n t8c 1 (CellsO w7 (some ⟨b2, 0, none⟩)) 5 1 1 #[(Value.int .u8 0)] fun p2 c2 w8 =>
        C1 t2 p2 (t8n + 1) c2 (IntKind.i64.wrap (t9 - 1)) w8)) (fun ch w6 => R (.panicked ch) w6)) (
    R (.returned (Value.tuple #[(Value.slice t8p t8n t8c), (Value.int .i64 0)])) w)
def stopcockref04_Put.l1 (t2 : Int) (t8p : Option Addr) (t8n : Nat) (t8c : Nat) (t9 : Int) (w : World) (R : Ending → World → Prop) : Prop :=
  ∃ (I : Int → Option Addr → Nat → Nat → Int → World → Prop) (m : Int → Option Addr → Nat → Nat → Int → World → Nat), I t2 t8p t8n t8c t9 w ∧
  ∀ (t2 : Int) (t8p : Option Addr) (t8n : Nat) (t8c : Nat) (t9 : Int) (w : World), I t2 t8p t8n t8c t9 w →
  stopcockref04_Put.b1 t2 t8p t8n t8c t9 w R (fun t2' t8p' t8n' t8c' t9' w' => I t2' t8p' t8n' t8c' t9' w' ∧ m t2' t8p' t8n' t8c' t9' w' < m t2 t8p t8n t8c t9 w)
def stopcockref04_Put.main (a0p : Option Addr) (a0n : Nat) (a0c : Nat) (a1 : Int) (a2 : Int) (w : World) (R : Ending → World → Prop) : Prop :=
  cond (decide (a1 < 1)) (
    R (.returned (Value.tuple #[(Value.slice none 0 0), (Value.int .i64 1)])) w) (
    cond (decide (a1 > 4)) (
      R (.returned (Value.tuple #[(Value.slice none 0 0), (Value.int .i64 1)])) w) (
      cond (decide (a2 < 0)) (
        R (.returned (Value.tuple #[(Value.slice none 0 0), (Value.int .i64 5)])) w) (
        callP Try.prog 81 #[(Value.int .i64 a1)] w (fun v1 w1 =>
          dI .i64 v1 fun x1 =>
          cond (decide (a2 ≥ x1)) (
            R (.returned (Value.tuple #[(Value.slice none 0 0), (Value.int .i64 5)])) w1) (
            newP w1 #[] 5 fun b1 w3 =>
            appP w3 (some ⟨b1, 0, none⟩) 0 0 a0n (CellsO w3 a0p) 5 1 1 #[(Value.int .u8 0)] fun p1 c1 w4 =>
            stopcockref04_Put.l1 a2 p1 (0 + a0n) c1 (IntKind.i64.wrap (a1 - 1)) w4 R)) (fun ch w2 => R (.panicked ch) w2))))
abbrev stopcockref04_Put.C (a0p : Option Addr) (a0n : Nat) (a0c : Nat) (a1 : Int) (a2 : Int) (w : World) (R : Ending → World → Prop) : Prop := Calls Try.prog 64 #[(Value.slice a0p a0n a0c), (Value.int .i64 a1), (Value.int .i64 a2)] w R
noncomputable def stopcockref04_Put.code : Code := (Try.f64.body).getD .skip
noncomputable def stopcockref04_Put.sk (R : Ending → World → Prop) : Sk := (.seq .leaf (.seq .leaf (.seq .leaf (.seq .leaf (.seq (.seq .leaf (.block (.loop [(2, .int .i64), (8, .slice), (9, .int .i64)] (fun (t2 : Int) (t8p : Option Addr) (t8n : Nat) (t8c : Nat) (t9 : Int) (w : World) => stopcockref04_Put.l1 t2 t8p t8n t8c t9 w R) (fun (C1 : Int → Option Addr → Nat → Nat → Int → World → Prop) => .leaf)))) .leaf)))))
def stopcockref04_Put.owed (R : Ending → World → Prop) : Prop :=
  (∀ (t2 : Int) (t8p : Option Addr) (t8n : Nat) (t8c : Nat) (t9 : Int) (w : World), stopcockref04_Put.l1 t2 t8p t8n t8c t9 w R → stopcockref04_Put.l1 t2 t8p t8n t8c t9 w R) ∧ (∀ (C1 : Int → Option Addr → Nat → Nat → Int → World → Prop), True) ∧ True
theorem stopcockref04_Put.pays (R : Ending → World → Prop) : stopcockref04_Put.owed R := ⟨(fun _ _ _ _ _ _ h => h), (fun _ => trivial), trivial⟩
set_option maxRecDepth 100000 in
theorem stopcockref04_Put.ok {a0p : Option Addr} {a0n : Nat} {a0c : Nat} {a1 : Int} {a2 : Int} {w : World} {R : Ending → World → Prop} (h : stopcockref04_Put.main a0p a0n a0c a1 a2 w R) : stopcockref04_Put.C a0p a0n a0c a1 a2 w R :=
  ev_ok cxok (c := cx) Try.func64 (code := stopcockref04_Put.code) (by kernel_rfl) [.tmp 6, .tmp 7] (by kernel_rfl) 43 (by kernel_rfl) (stopcockref04_Put.sk R) (args := [(Value.slice a0p a0n a0c), (Value.int .i64 a1), (Value.int .i64 a2)]) (Nat.le_of_ble_eq_true rfl) (by kernel_rfl) (o := stopcockref04_Put.owed R) (by kernel_rfl) (stopcockref04_Put.pays R) h

end Go.Proofs.Ythgmebhkbbehmaa.G

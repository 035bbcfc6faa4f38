/- Statements of functions, and that their calls do what they say. Printed by wip/tool/dec.py. Conditions: none. -/
import Derived.Test.YtnbegeghcjldfaaG0
namespace Go.Proofs.Ytnbegeghcjldfaa.G
open Go.Dec
set_option linter.unusedVariables false

/-! ### (*stopcock/basin.Basin).spend: function 19 -/
def basin_Basin_spend.main (a0 : Option Addr) (w : World) (R : Ending → World → Prop) : Prop :=
  optP a0 fun d1 =>
  ∃ (x1 : Int), w.cell? (d1.add 3) = some (Value.int .i64 x1) ∧
  (cond (x1 == 0) (
      optP a0 fun d2 =>
      (w.cell? (d2.add 4)).isSome = true ∧ w.frozen? (d2.add 4) = false ∧ ∀ w1, w1 = w.setCell (d2.add 4) (Value.bool true) →
      (optP a0 fun d6 =>
        ∃ (b1 : Bool), w1.cell? (d6.add 4) = some (Value.bool b1) ∧
        (R (.returned (Value.bool b1)) w1))) (
      optP a0 fun d3 =>
      ∃ (x2 : Int), w.cell? (d3.add 3) = some (Value.int .i64 x2) ∧
      (cond (decide (x2 > 0)) (
          optP a0 fun d4 =>
          ∃ (x3 : Int), w.cell? (d4.add 3) = some (Value.int .i64 x3) ∧
          (optP a0 fun d5 =>
            (w.cell? (d5.add 3)).isSome = true ∧ w.frozen? (d5.add 3) = false ∧ ∀ w2, w2 = w.setCell (d5.add 3) (Value.int .i64 (IntKind.i64.wrap (x3 - 1))) →
            (optP a0 fun d7 =>
              ∃ (b2 : Bool), w2.cell? (d7.add 4) = some (Value.bool b2) ∧
              (R (.returned (Value.bool b2)) w2)))) (
          optP a0 fun d8 =>
          ∃ (b3 : Bool), w.cell? (d8.add 4) = some (Value.bool b3) ∧
          (R (.returned (Value.bool b3)) w)))))
abbrev basin_Basin_spend.C (a0 : Option Addr) (w : World) (R : Ending → World → Prop) : Prop := Calls Try.prog 19 #[(Value.pointer a0)] w R
noncomputable def basin_Basin_spend.code : Code := (Try.f19.body).getD .skip
noncomputable def basin_Basin_spend.sk (R : Ending → World → Prop) : Sk := .leaf
def basin_Basin_spend.owed (R : Ending → World → Prop) : Prop :=
  True
theorem basin_Basin_spend.pays (R : Ending → World → Prop) : basin_Basin_spend.owed R := trivial
set_option maxRecDepth 100000 in
theorem basin_Basin_spend.ok {a0 : Option Addr} {w : World} {R : Ending → World → Prop} (h : basin_Basin_spend.main a0 w R) : basin_Basin_spend.C a0 w R :=
  ev_ok cxok (c := cx) Try.func19 (code := basin_Basin_spend.code) (by kernel_rfl) [.tmp 2] (by kernel_rfl) 27 (by kernel_rfl) (basin_Basin_spend.sk R) (args := [(Value.pointer a0)]) (Nat.le_of_ble_eq_true rfl) (by kernel_rfl) (o := basin_Basin_spend.owed R) (by kernel_rfl) (basin_Basin_spend.pays R) h

/-! ### stopcock/spool.read: function 20 -/
def spool_read.k1 (t0p : Option Addr) (t0n : Nat) (t0c : Nat) (t1 : Int) (t2 : Int) (t10p : Option Addr) (t10n : Nat) (t10c : Nat) (w : World) (R : Ending → World → Prop) : Prop :=
  callP Try.prog 29 #[(Value.int .i64 t1), (Value.int .i64 t2), (Value.slice t10p t10n t10c)] w (fun v7 w9 =>
    dT v7 fun vs3 =>
    optP (vs3[0]?) fun v8 =>
    dS v8 fun p3 n2 c3 =>
    optP (vs3[1]?) fun v9 =>
    dI .i64 v9 fun x6 =>
    cond (x6 == 0) (
      callP Try.prog 33 #[(Value.slice p3 n2 c3), (Value.slice t0p t0n t0c)] w9 (fun v10 w11 =>
        dB v10 fun b3 =>
        R (.returned (Value.tuple #[(Value.slice t10p t10n t10c), (Value.bool b3)])) w11) (fun ch w12 => R (.panicked ch) w12)) (
      R (.returned (Value.tuple #[(Value.slice t10p t10n t10c), (Value.bool false)])) w9)) (fun ch w10 => R (.panicked ch) w10)
def spool_read.b1 (t0p : Option Addr) (t0n : Nat) (t0c : Nat) (t1 : Int) (t2 : Int) (t8p : Option Addr) (t8n : Nat) (t8c : Nat) (t10p : Option Addr) (t10n : Nat) (t10c : Nat) (t37 : Int) (t38 : Int) (w : World) (R : Ending → World → Prop) (C1 : Option Addr → Nat → Nat → Int → Int → Option Addr → Nat → Nat → Option Addr → Nat → Nat → Int → Int → World → Prop) : Prop :=
  cond (decide (t38 < t37)) (
    chk (decide (0 ≤ (IntKind.i64.wrap ((IntKind.i64.wrap (6 + (IntKind.i64.wrap (5 * t38)))) + 5)))) (
      chk (decide ((IntKind.i64.wrap ((IntKind.i64.wrap (6 + (IntKind.i64.wrap (5 * t38)))) + 5)) ≤ ((t8c : Nat) : Int))) (
        chk (decide (0 ≤ (IntKind.i64.wrap (6 + (IntKind.i64.wrap (5 * t38)))))) (
          chk (decide ((IntKind.i64.wrap (6 + (IntKind.i64.wrap (5 * t38)))) ≤ (((IntKind.i64.wrap ((IntKind.i64.wrap (6 + (IntKind.i64.wrap (5 * t38)))) + 5)).toNat : Nat) : Int))) (
            callP Try.prog 32 #[(Value.slice (slA t8p t8c ((IntKind.i64.wrap (6 + (IntKind.i64.wrap (5 * t38)))).toNat) 1) ((IntKind.i64.wrap ((IntKind.i64.wrap (6 + (IntKind.i64.wrap (5 * t38)))) + 5)).toNat - (IntKind.i64.wrap (6 + (IntKind.i64.wrap (5 * t38)))).toNat) (t8c - (IntKind.i64.wrap (6 + (IntKind.i64.wrap (5 * t38)))).toNat))] w (fun v4 w3 =>
              dT v4 fun vs2 =>
              optP (vs2[0]?) fun v5 =>
              dA v5 fun cs1 =>
              optP (vs2[1]?) fun v6 =>
              dI .i64 v6 fun x5 =>
              newP w3 #[(Value.int .i64 0), (Value.int .i64 0), (Value.int .i64 0), (Value.int .i64 0), (Value.complex .f64 0 0)] 52 fun b1 w5 =>
              chk (decide (cs1.size = 5)) (
                Wr w5 (⟨b1, 0, none⟩ : Addr) cs1.toList ∧ ∀ w6, w6 = w5.setCells (⟨b1, 0, none⟩ : Addr).block (⟨b1, 0, none⟩ : Addr).off cs1.toList →
                (cond (x5 != 0) (
                    R (.returned (Value.tuple #[(Value.slice none 0 0), (Value.bool false)])) w6) (
                    ∃ (cs2 : Array Value), cs2.size = 5 ∧ CellsAt w6 (⟨b1, 0, none⟩ : Addr) cs2.toList ∧
                    (optP (Instr.fill (fun i => some (i * 5, 5)) (madeCells #[(Value.int .i64 0), (Value.int .i64 0), (Value.int .i64 0), (Value.int .i64 0), (Value.complex .f64 0 0)] (1 * 5)) [(0, (Value.agg cs2))]) fun cs3 =>
                      newP w6 cs3 52 fun b2 w7 =>
                      appP w7 t10p t10n t10c 1 (CellsO w7 (some ⟨b2, 0, none⟩)) 52 5 48 #[(Value.int .i64 0), (Value.int .i64 0), (Value.int .i64 0), (Value.int .i64 0), (Value.complex .f64 0 0)] fun p2 c2 w8 =>
                      C1 t0p t0n t0c t1 t2 t8p t8n t8c p2 (t10n + 1) c2 t37 (IntKind.i64.wrap (t38 + 1)) w8))))) (fun ch w4 => R (.panicked ch) w4)))))) (
    spool_read.k1 t0p t0n t0c t1 t2 t10p t10n t10c w R)
def spool_read.l1 (t0p : Option Addr) (t0n : Nat) (t0c : Nat) (t1 : Int) (t2 : Int) (t8p : Option Addr) (t8n : Nat) (t8c : Nat) (t10p : Option Addr) (t10n : Nat) (t10c : Nat) (t37 : Int) (t38 : Int) (w : World) (R : Ending → World → Prop) : Prop :=
  ∃ (I : Option Addr → Nat → Nat → Int → Int → Option Addr → Nat → Nat → Option Addr → Nat → Nat → Int → Int → World → Prop) (m : Option Addr → Nat → Nat → Int → Int → Option Addr → Nat → Nat → Option Addr → Nat → Nat → Int → Int → World → Nat), I t0p t0n t0c t1 t2 t8p t8n t8c t10p t10n t10c t37 t38 w ∧
  ∀ (t0p : Option Addr) (t0n : Nat) (t0c : Nat) (t1 : Int) (t2 : Int) (t8p : Option Addr) (t8n : Nat) (t8c : Nat) (t10p : Option Addr) (t10n : Nat) (t10c : Nat) (t37 : Int) (t38 : Int) (w : World), I t0p t0n t0c t1 t2 t8p t8n t8c t10p t10n t10c t37 t38 w →
  spool_read.b1 t0p t0n t0c t1 t2 t8p t8n t8c t10p t10n t10c t37 t38 w R (fun t0p' t0n' t0c' t1' t2' t8p' t8n' t8c' t10p' t10n' t10c' t37' t38' w' => I t0p' t0n' t0c' t1' t2' t8p' t8n' t8c' t10p' t10n' t10c' t37' t38' w' ∧ m t0p' t0n' t0c' t1' t2' t8p' t8n' t8c' t10p' t10n' t10c' t37' t38' w' < m t0p t0n t0c t1 t2 t8p t8n t8c t10p t10n t10c t37 t38 w)
def spool_read.main (a0p : Option Addr) (a0n : Nat) (a0c : Nat) (a1 : Int) (a2 : Int) (w : World) (R : Ending → World → Prop) : Prop :=
  callP Try.prog 31 #[(Value.slice a0p a0n a0c)] w (fun v1 w1 =>
    dT v1 fun vs1 =>
    optP (vs1[0]?) fun v2 =>
    dS v2 fun p1 n1 c1 =>
    optP (vs1[1]?) fun v3 =>
    dI .i64 v3 fun x1 =>
    cond (x1 != 0) (
      R (.returned (Value.tuple #[(Value.slice none 0 0), (Value.bool false)])) w1) (
      chk (decide (5 < ((n1 : Nat) : Int))) (
        optP p1 fun d1 =>
        ∃ (x2 : Int), w1.cell? (d1.add 5) = some (Value.int .u8 x2) ∧
        (cond (decide (x2 < 1)) (
            R (.returned (Value.tuple #[(Value.slice none 0 0), (Value.bool false)])) w1) (
            chk (decide (5 < ((n1 : Nat) : Int))) (
              optP p1 fun d2 =>
              ∃ (x3 : Int), w1.cell? (d2.add 5) = some (Value.int .u8 x3) ∧
              (cond (decide (x3 > 6)) (
                  R (.returned (Value.tuple #[(Value.slice none 0 0), (Value.bool false)])) w1) (
                  chk (decide (5 < ((n1 : Nat) : Int))) (
                    optP p1 fun d3 =>
                    ∃ (x4 : Int), w1.cell? (d3.add 5) = some (Value.int .u8 x4) ∧
                    (spool_read.l1 a0p a0n a0c a1 a2 p1 n1 c1 none 0 0 (IntKind.i64.wrap x4) 0 w1 R)))))))))) (fun ch w2 => R (.panicked ch) w2)
abbrev spool_read.C (a0p : Option Addr) (a0n : Nat) (a0c : Nat) (a1 : Int) (a2 : Int) (w : World) (R : Ending → World → Prop) : Prop := Calls Try.prog 20 #[(Value.slice a0p a0n a0c), (Value.int .i64 a1), (Value.int .i64 a2)] w R
noncomputable def spool_read.code : Code := (Try.f20.body).getD .skip
noncomputable def spool_read.sk (R : Ending → World → Prop) : Sk := (.seq .leaf (.seq .leaf (.seq .leaf (.seq .leaf (.cut [(0, .slice), (1, .int .i64), (2, .int .i64), (10, .slice)] (fun (t0p : Option Addr) (t0n : Nat) (t0c : Nat) (t1 : Int) (t2 : Int) (t10p : Option Addr) (t10n : Nat) (t10c : Nat) (w : World) => spool_read.k1 t0p t0n t0c t1 t2 t10p t10n t10c w R) (.seq .leaf (.block (.loop [(0, .slice), (1, .int .i64), (2, .int .i64), (8, .slice), (10, .slice), (37, .int .i64), (38, .int .i64)] (fun (t0p : Option Addr) (t0n : Nat) (t0c : Nat) (t1 : Int) (t2 : Int) (t8p : Option Addr) (t8n : Nat) (t8c : Nat) (t10p : Option Addr) (t10n : Nat) (t10c : Nat) (t37 : Int) (t38 : Int) (w : World) => spool_read.l1 t0p t0n t0c t1 t2 t8p t8n t8c t10p t10n t10c t37 t38 w R) (fun (C1 : Option Addr → Nat → Nat → Int → Int → Option Addr → Nat → Nat → Option Addr → Nat → Nat → Int → Int → World → Prop) => .leaf)))) .leaf)))))
def spool_read.owed (R : Ending → World → Prop) : Prop :=
  (∀ (t0p : Option Addr) (t0n : Nat) (t0c : Nat) (t1 : Int) (t2 : Int) (t8p : Option Addr) (t8n : Nat) (t8c : Nat) (t10p : Option Addr) (t10n : Nat) (t10c : Nat) (t37 : Int) (t38 : Int) (w : World), spool_read.l1 t0p t0n t0c t1 t2 t8p t8n t8c t10p t10n t10c t37 t38 w R → spool_read.l1 t0p t0n t0c t1 t2 t8p t8n t8c t10p t10n t10c t37 t38 w R) ∧ (∀ (C1 : Option Addr → Nat → Nat → Int → Int → Option Addr → Nat → Nat → Option Addr → Nat → Nat → Int → Int → World → Prop), True) ∧ (∀ (t0p : Option Addr) (t0n : Nat) (t0c : Nat) (t1 : Int) (t2 : Int) (t10p : Option Addr) (t10n : Nat) (t10c : Nat) (w : World), spool_read.k1 t0p t0n t0c t1 t2 t10p t10n t10c w R → spool_read.k1 t0p t0n t0c t1 t2 t10p t10n t10c w R) ∧ True
theorem spool_read.pays (R : Ending → World → Prop) : spool_read.owed R := ⟨(fun _ _ _ _ _ _ _ _ _ _ _ _ _ _ h => h), (fun _ => trivial), (fun _ _ _ _ _ _ _ _ _ h => h), trivial⟩
set_option maxRecDepth 100000 in
theorem spool_read.ok {a0p : Option Addr} {a0n : Nat} {a0c : Nat} {a1 : Int} {a2 : Int} {w : World} {R : Ending → World → Prop} (h : spool_read.main a0p a0n a0c a1 a2 w R) : spool_read.C a0p a0n a0c a1 a2 w R :=
  ev_ok cxok (c := cx) Try.func20 (code := spool_read.code) (by kernel_rfl) [.tmp 6, .tmp 7] (by kernel_rfl) 76 (by kernel_rfl) (spool_read.sk R) (args := [(Value.slice a0p a0n a0c), (Value.int .i64 a1), (Value.int .i64 a2)]) (Nat.le_of_ble_eq_true rfl) (by kernel_rfl) (o := spool_read.owed R) (by kernel_rfl) (spool_read.pays R) h

/-! ### bytes.Clone: function 21 -/
def bytes_Clone.main (a0p : Option Addr) (a0n : Nat) (a0c : Nat) (w : World) (R : Ending → World → Prop) : Prop :=
  cond (Option.isNone a0p) (
    R (.returned (Value.slice none 0 0)) w) (
    newP w #[] 5 fun b1 w1 =>
    appP w1 (some ⟨b1, 0, none⟩) 0 0 a0n (CellsO w1 a0p) 5 1 1 #[(Value.int .u8 0)] fun p1 c1 w2 =>
    R (.returned (Value.slice p1 (0 + a0n) c1)) w2)
abbrev bytes_Clone.C (a0p : Option Addr) (a0n : Nat) (a0c : Nat) (w : World) (R : Ending → World → Prop) : Prop := Calls Try.prog 21 #[(Value.slice a0p a0n a0c)] w R
noncomputable def bytes_Clone.code : Code := (Try.f21.body).getD .skip
noncomputable def bytes_Clone.sk (R : Ending → World → Prop) : Sk := .leaf
def bytes_Clone.owed (R : Ending → World → Prop) : Prop :=
  True
theorem bytes_Clone.pays (R : Ending → World → Prop) : bytes_Clone.owed R := trivial
set_option maxRecDepth 100000 in
theorem bytes_Clone.ok {a0p : Option Addr} {a0n : Nat} {a0c : Nat} {w : World} {R : Ending → World → Prop} (h : bytes_Clone.main a0p a0n a0c w R) : bytes_Clone.C a0p a0n a0c w R :=
  ev_ok cxok (c := cx) Try.func21 (code := bytes_Clone.code) (by kernel_rfl) [.tmp 2] (by kernel_rfl) 8 (by kernel_rfl) (bytes_Clone.sk R) (args := [(Value.slice a0p a0n a0c)]) (Nat.le_of_ble_eq_true rfl) (by kernel_rfl) (o := bytes_Clone.owed R) (by kernel_rfl) (bytes_Clone.pays R) h

/-! ### stopcock/delta.Check: function 27 -/
def delta_Check.main (a0_0 : Int) (a0_1 : Int) (a0_2 : Int) (a0_3 : Int) (a0_4r : Nat) (a0_4m : Nat) (w : World) (R : Ending → World → Prop) : Prop :=
  newP w #[(Value.int .i64 a0_0), (Value.int .i64 a0_1), (Value.int .i64 a0_2), (Value.int .i64 a0_3), (Value.complex .f64 a0_4r a0_4m)] 52 fun b1 w1 =>
  ∃ (x1 : Int), w1.cell? (⟨b1, 0, none⟩ : Addr) = some (Value.int .i64 x1) ∧
  (callP Try.prog 39 #[(Value.int .i64 x1), (Value.int .i64 1), (Value.int .i64 6)] w1 (fun v1 w2 =>
      dB v1 fun b2 =>
      cond (!b2) (
        R (.returned (Value.int .i64 1)) w2) (
        ∃ (cs1 : Array Value), cs1.size = 5 ∧ CellsAt w2 (⟨b1, 0, none⟩ : Addr) cs1.toList ∧
        (callP Try.prog 40 #[(Value.agg cs1)] w2 (fun v2 w4 =>
            dT v2 fun vs1 =>
            optP (vs1[0]?) fun v3 =>
            dA v3 fun cs2 =>
            optP (vs1[1]?) fun v4 =>
            dB v4 fun b3 =>
            newP w4 #[(Value.int .i64 0), (Value.int .i64 0), (Value.int .i64 0), (Value.int .i64 0), (Value.complex .f64 0 0)] 52 fun b4 w6 =>
            chk (decide (cs2.size = 5)) (
              Wr w6 (⟨b4, 0, none⟩ : Addr) cs2.toList ∧ ∀ w7, w7 = w6.setCells (⟨b4, 0, none⟩ : Addr).block (⟨b4, 0, none⟩ : Addr).off cs2.toList →
              (cond (!b3) (
                  R (.returned (Value.int .i64 5)) w7) (
                  ∃ (x2 : Int), w7.cell? (⟨b4, 2, none⟩ : Addr) = some (Value.int .i64 x2) ∧
                  (cond (x2 != 0) (
                      R (.returned (Value.int .i64 2)) w7) (
                      ∃ (x3 : Int), w7.cell? (⟨b4, 3, none⟩ : Addr) = some (Value.int .i64 x3) ∧
                      (cond (x3 != 0) (
                          R (.returned (Value.int .i64 2)) w7) (
                          ∃ (r1 : Nat) (m1 : Nat), w7.cell? (⟨b4, 4, none⟩ : Addr) = some (Value.complex .f64 r1 m1) ∧
                          (cond (!(fCmp .eql r1 0 && fCmp .eql m1 0)) (
                          R (.returned (Value.int .i64 2)) w7) (
                          R (.returned (Value.int .i64 0)) w7)))))))))) (fun ch w5 => R (.panicked ch) w5)))) (fun ch w3 => R (.panicked ch) w3))
abbrev delta_Check.C (a0_0 : Int) (a0_1 : Int) (a0_2 : Int) (a0_3 : Int) (a0_4r : Nat) (a0_4m : Nat) (w : World) (R : Ending → World → Prop) : Prop := Calls Try.prog 27 #[(Value.agg #[(Value.int .i64 a0_0), (Value.int .i64 a0_1), (Value.int .i64 a0_2), (Value.int .i64 a0_3), (Value.complex .f64 a0_4r a0_4m)])] w R
noncomputable def delta_Check.code : Code := (Try.f27.body).getD .skip
noncomputable def delta_Check.sk (R : Ending → World → Prop) : Sk := .leaf
def delta_Check.owed (R : Ending → World → Prop) : Prop :=
  True
theorem delta_Check.pays (R : Ending → World → Prop) : delta_Check.owed R := trivial
set_option maxRecDepth 100000 in
theorem delta_Check.ok {a0_0 : Int} {a0_1 : Int} {a0_2 : Int} {a0_3 : Int} {a0_4r : Nat} {a0_4m : Nat} {w : World} {R : Ending → World → Prop} (h : delta_Check.main a0_0 a0_1 a0_2 a0_3 a0_4r a0_4m w R) : delta_Check.C a0_0 a0_1 a0_2 a0_3 a0_4r a0_4m w R :=
  ev_ok cxok (c := cx) Try.func27 (code := delta_Check.code) (by kernel_rfl) [.tmp 2] (by kernel_rfl) 31 (by kernel_rfl) (delta_Check.sk R) (args := [(Value.agg #[(Value.int .i64 a0_0), (Value.int .i64 a0_1), (Value.int .i64 a0_2), (Value.int .i64 a0_3), (Value.complex .f64 a0_4r a0_4m)])]) (Nat.le_of_ble_eq_true rfl) (by kernel_rfl) (o := delta_Check.owed R) (by kernel_rfl) (delta_Check.pays R) h

/-! ### slices.Chunk[[]stopcock/api.Delta,stopcock/api.Delta]: function 28 -/
def api_Delta.main (a0p : Option Addr) (a0n : Nat) (a0c : Nat) (a1 : Int) (w : World) (R : Ending → World → Prop) : Prop :=
  newP w #[(Value.slice a0p a0n a0c)] 32 fun b1 w1 =>
  newP w1 #[(Value.int .i64 a1)] 3 fun b2 w2 =>
  ∃ (x1 : Int), w2.cell? (⟨b2, 0, none⟩ : Addr) = some (Value.int .i64 x1) ∧
  (cond (decide (x1 < 1)) (
      R (.panicked [{ v := (Value.iface 9 (Value.string (⟨#[99, 97, 110, 110, 111, 116, 32, 98, 101, 32, 108, 101, 115, 115, 32, 116, 104, 97, 110, 32, 49]⟩ : ByteArray))), recovered := false }]) w2) (
      R (.returned (Value.func (.func 41) #[] #[(Value.pointer (some (⟨b1, 0, none⟩ : Addr))), (Value.pointer (some (⟨b2, 0, none⟩ : Addr)))])) w2))
abbrev api_Delta.C (a0p : Option Addr) (a0n : Nat) (a0c : Nat) (a1 : Int) (w : World) (R : Ending → World → Prop) : Prop := Calls Try.prog 28 #[(Value.slice a0p a0n a0c), (Value.int .i64 a1)] w R
noncomputable def api_Delta.code : Code := (Try.f28.body).getD .skip
noncomputable def api_Delta.sk (R : Ending → World → Prop) : Sk := .leaf
def api_Delta.owed (R : Ending → World → Prop) : Prop :=
  True
theorem api_Delta.pays (R : Ending → World → Prop) : api_Delta.owed R := trivial
set_option maxRecDepth 100000 in
theorem api_Delta.ok {a0p : Option Addr} {a0n : Nat} {a0c : Nat} {a1 : Int} {w : World} {R : Ending → World → Prop} (h : api_Delta.main a0p a0n a0c a1 w R) : api_Delta.C a0p a0n a0c a1 w R :=
  ev_ok cxok (c := cx) Try.func28 (code := api_Delta.code) (by kernel_rfl) [.tmp 4] (by kernel_rfl) 9 (by kernel_rfl) (api_Delta.sk R) (args := [(Value.slice a0p a0n a0c), (Value.int .i64 a1)]) (Nat.le_of_ble_eq_true rfl) (by kernel_rfl) (o := api_Delta.owed R) (by kernel_rfl) (api_Delta.pays R) h

/-! ### stopcock/spool.sector: function 29 -/
def spool_sector.k1 (t8p : Option Addr) (t8n : Nat) (t8c : Nat) (w : World) (R : Ending → World → Prop) : Prop :=
  callP Try.prog 44 #[(Value.slice t8p t8n t8c)] w (fun v7 w11 =>
    dT v7 fun vs3 =>
    optP (vs3[0]?) fun v8 =>
    dS v8 fun p5 n3 c5 =>
    optP (vs3[1]?) fun v9 =>
    dI .i64 v9 fun x3 =>
    R (.returned (Value.tuple #[(Value.slice p5 n3 c5), (Value.int .i64 x3)])) w11) (fun ch w12 => R (.panicked ch) w12)
def spool_sector.b1 (t8p : Option Addr) (t8n : Nat) (t8c : Nat) (t28p : Option Addr) (t28n : Nat) (t28c : Nat) (t29 : Int) (t30 : Int) (w : World) (R : Ending → World → Prop) (C1 : Option Addr → Nat → Nat → Option Addr → Nat → Nat → Int → Int → World → Prop) : Prop :=
  cond (decide (t30 < t29)) (
    chk (decide (0 ≤ t30)) (
      chk (decide (t30 < ((t28n : Nat) : Int))) (
        optP t28p fun d1 =>
        ∃ (cs1 : Array Value), cs1.size = 5 ∧ CellsAt w (d1.add (t30.toNat * 5)) cs1.toList ∧
        (newP w #[(Value.int .i64 0), (Value.int .i64 0), (Value.int .i64 0), (Value.int .i64 0), (Value.complex .f64 0 0)] 52 fun b3 w6 =>
          chk (decide (cs1.size = 5)) (
            Wr w6 (⟨b3, 0, none⟩ : Addr) cs1.toList ∧ ∀ w7, w7 = w6.setCells (⟨b3, 0, none⟩ : Addr).block (⟨b3, 0, none⟩ : Addr).off cs1.toList →
            (∃ (cs2 : Array Value), cs2.size = 5 ∧ CellsAt w7 (⟨b3, 0, none⟩ : Addr) cs2.toList ∧
              (callP Try.prog 43 #[(Value.agg cs2)] w7 (fun v4 w8 =>
                  dT v4 fun vs2 =>
                  optP (vs2[0]?) fun v5 =>
                  dS v5 fun p3 n2 c3 =>
                  optP (vs2[1]?) fun v6 =>
                  dI .i64 v6 fun x2 =>
                  cond (x2 != 0) (
                    R (.returned (Value.tuple #[(Value.slice none 0 0), (Value.int .i64 x2)])) w8) (
                    appP w8 t8p t8n t8c n2 (CellsO w8 p3) 5 1 1 #[(Value.int .u8 0)] fun p4 c4 w10 =>
                    C1 p4 (t8n + n2) c4 t28p t28n t28c t29 (IntKind.i64.wrap (t30 + 1)) w10)) (fun ch w9 => R (.panicked ch) w9)))))))) (
    spool_sector.k1 t8p t8n t8c w R)
def spool_sector.l1 (t8p : Option Addr) (t8n : Nat) (t8c : Nat) (t28p : Option Addr) (t28n : Nat) (t28c : Nat) (t29 : Int) (t30 : Int) (w : World) (R : Ending → World → Prop) : Prop :=
  ∃ (I : Option Addr → Nat → Nat → Option Addr → Nat → Nat → Int → Int → World → Prop) (m : Option Addr → Nat → Nat → Option Addr → Nat → Nat → Int → Int → World → Nat), I t8p t8n t8c t28p t28n t28c t29 t30 w ∧
  ∀ (t8p : Option Addr) (t8n : Nat) (t8c : Nat) (t28p : Option Addr) (t28n : Nat) (t28c : Nat) (t29 : Int) (t30 : Int) (w : World), I t8p t8n t8c t28p t28n t28c t29 t30 w →
  spool_sector.b1 t8p t8n t8c t28p t28n t28c t29 t30 w R (fun t8p' t8n' t8c' t28p' t28n' t28c' t29' t30' w' => I t8p' t8n' t8c' t28p' t28n' t28c' t29' t30' w' ∧ m t8p' t8n' t8c' t28p' t28n' t28c' t29' t30' w' < m t8p t8n t8c t28p t28n t28c t29 t30 w)
def spool_sector.main (a0 : Int) (a1 : Int) (a2p : Option Addr) (a2n : Nat) (a2c : Nat) (w : World) (R : Ending → World → Prop) : Prop :=
  newP w #[(Value.int .i64 a0)] 3 fun b1 w1 =>
  callP Try.prog 42 #[(Value.int .i64 4), (Value.slice (some ⟨b1, 0, none⟩) 1 1)] w1 (fun v1 w2 =>
    dT v1 fun vs1 =>
    optP (vs1[0]?) fun v2 =>
    dS v2 fun p1 n1 c1 =>
    optP (vs1[1]?) fun v3 =>
    dI .i64 v3 fun x1 =>
    newP w2 #[(Value.int .u8 (IntKind.u8.wrap a1)), (Value.int .u8 (IntKind.u8.wrap ((a2n : Nat) : Int)))] 5 fun b2 w4 =>
    appP w4 p1 n1 c1 2 (CellsO w4 (some ⟨b2, 0, none⟩)) 5 1 1 #[(Value.int .u8 0)] fun p2 c2 w5 =>
    spool_sector.l1 p2 (n1 + 2) c2 a2p a2n a2c ((a2n : Nat) : Int) 0 w5 R) (fun ch w3 => R (.panicked ch) w3)
abbrev spool_sector.C (a0 : Int) (a1 : Int) (a2p : Option Addr) (a2n : Nat) (a2c : Nat) (w : World) (R : Ending → World → Prop) : Prop := Calls Try.prog 29 #[(Value.int .i64 a0), (Value.int .i64 a1), (Value.slice a2p a2n a2c)] w R
noncomputable def spool_sector.code : Code := (Try.f29.body).getD .skip
noncomputable def spool_sector.sk (R : Ending → World → Prop) : Sk := (.seq .leaf (.seq .leaf (.seq .leaf (.cut [(8, .slice)] (fun (t8p : Option Addr) (t8n : Nat) (t8c : Nat) (w : World) => spool_sector.k1 t8p t8n t8c w R) (.seq .leaf (.block (.loop [(8, .slice), (28, .slice), (29, .int .i64), (30, .int .i64)] (fun (t8p : Option Addr) (t8n : Nat) (t8c : Nat) (t28p : Option Addr) (t28n : Nat) (t28c : Nat) (t29 : Int) (t30 : Int) (w : World) => spool_sector.l1 t8p t8n t8c t28p t28n t28c t29 t30 w R) (fun (C1 : Option Addr → Nat → Nat → Option Addr → Nat → Nat → Int → Int → World → Prop) => .leaf)))) .leaf))))
def spool_sector.owed (R : Ending → World → Prop) : Prop :=
  (∀ (t8p : Option Addr) (t8n : Nat) (t8c : Nat) (t28p : Option Addr) (t28n : Nat) (t28c : Nat) (t29 : Int) (t30 : Int) (w : World), spool_sector.l1 t8p t8n t8c t28p t28n t28c t29 t30 w R → spool_sector.l1 t8p t8n t8c t28p t28n t28c t29 t30 w R) ∧ (∀ (C1 : Option Addr → Nat → Nat → Option Addr → Nat → Nat → Int → Int → World → Prop), True) ∧ (∀ (t8p : Option Addr) (t8n : Nat) (t8c : Nat) (w : World), spool_sector.k1 t8p t8n t8c w R → spool_sector.k1 t8p t8n t8c w R) ∧ True
theorem spool_sector.pays (R : Ending → World → Prop) : spool_sector.owed R := ⟨(fun _ _ _ _ _ _ _ _ _ h => h), (fun _ => trivial), (fun _ _ _ _ h => h), trivial⟩
set_option maxRecDepth 100000 in
theorem spool_sector.ok {a0 : Int} {a1 : Int} {a2p : Option Addr} {a2n : Nat} {a2c : Nat} {w : World} {R : Ending → World → Prop} (h : spool_sector.main a0 a1 a2p a2n a2c w R) : spool_sector.C a0 a1 a2p a2n a2c w R :=
  ev_ok cxok (c := cx) Try.func29 (code := spool_sector.code) (by kernel_rfl) [.tmp 6, .tmp 7] (by kernel_rfl) 50 (by kernel_rfl) (spool_sector.sk R) (args := [(Value.int .i64 a0), (Value.int .i64 a1), (Value.slice a2p a2n a2c)]) (Nat.le_of_ble_eq_true rfl) (by kernel_rfl) (o := spool_sector.owed R) (by kernel_rfl) (spool_sector.pays R) h

/-! ### stopcock/seal.Open: function 31 -/
def seal_Open.main (a0p : Option Addr) (a0n : Nat) (a0c : Nat) (w : World) (R : Ending → World → Prop) : Prop :=
  cond (((a0n : Nat) : Int) != 64) (
    R (.returned (Value.tuple #[(Value.slice none 0 0), (Value.int .i64 6)])) w) (
    chk (decide (60 ≤ ((a0c : Nat) : Int))) (
      callP Try.prog 44 #[(Value.slice (slA a0p a0c 0 1) 60 a0c)] w (fun v1 w1 =>
        dT v1 fun vs1 =>
        optP (vs1[0]?) fun v2 =>
        dS v2 fun p1 n1 c1 =>
        optP (vs1[1]?) fun v3 =>
        dI .i64 v3 fun x1 =>
        callP Try.prog 33 #[(Value.slice p1 n1 c1), (Value.slice a0p a0n a0c)] w1 (fun v4 w3 =>
          dB v4 fun b1 =>
          cond (!b1) (
            R (.returned (Value.tuple #[(Value.slice none 0 0), (Value.int .i64 2)])) w3) (
            chk (decide (60 ≤ ((a0c : Nat) : Int))) (
              callP Try.prog 21 #[(Value.slice (slA a0p a0c 0 1) 60 a0c)] w3 (fun v5 w5 =>
                dS v5 fun p2 n2 c2 =>
                R (.returned (Value.tuple #[(Value.slice p2 n2 c2), (Value.int .i64 0)])) w5) (fun ch w6 => R (.panicked ch) w6)))) (fun ch w4 => R (.panicked ch) w4)) (fun ch w2 => R (.panicked ch) w2)))
abbrev seal_Open.C (a0p : Option Addr) (a0n : Nat) (a0c : Nat) (w : World) (R : Ending → World → Prop) : Prop := Calls Try.prog 31 #[(Value.slice a0p a0n a0c)] w R
noncomputable def seal_Open.code : Code := (Try.f31.body).getD .skip
noncomputable def seal_Open.sk (R : Ending → World → Prop) : Sk := .leaf
def seal_Open.owed (R : Ending → World → Prop) : Prop :=
  True
theorem seal_Open.pays (R : Ending → World → Prop) : seal_Open.owed R := trivial
set_option maxRecDepth 100000 in
theorem seal_Open.ok {a0p : Option Addr} {a0n : Nat} {a0c : Nat} {w : World} {R : Ending → World → Prop} (h : seal_Open.main a0p a0n a0c w R) : seal_Open.C a0p a0n a0c w R :=
  ev_ok cxok (c := cx) Try.func31 (code := seal_Open.code) (by kernel_rfl) [.tmp 2, .tmp 3] (by kernel_rfl) 22 (by kernel_rfl) (seal_Open.sk R) (args := [(Value.slice a0p a0n a0c)]) (Nat.le_of_ble_eq_true rfl) (by kernel_rfl) (o := seal_Open.owed R) (by kernel_rfl) (seal_Open.pays R) h

/-! ### stopcock/delta.Decode: function 32 -/
def delta_Decode.main (a0p : Option Addr) (a0n : Nat) (a0c : Nat) (w : World) (R : Ending → World → Prop) : Prop :=
  newP w #[(Value.int .i64 0), (Value.int .i64 0), (Value.int .i64 0), (Value.int .i64 0), (Value.complex .f64 0 0)] 52 fun b1 w1 =>
  cond (((a0n : Nat) : Int) != 5) (
    Wr w1 (⟨b1, 0, none⟩ : Addr) [(Value.int .i64 0), (Value.int .i64 0), (Value.int .i64 0), (Value.int .i64 0), (Value.complex .f64 0 0)] ∧ ∀ w2, w2 = w1.setCells (⟨b1, 0, none⟩ : Addr).block (⟨b1, 0, none⟩ : Addr).off [(Value.int .i64 0), (Value.int .i64 0), (Value.int .i64 0), (Value.int .i64 0), (Value.complex .f64 0 0)] →
    (∃ (cs1 : Array Value), cs1.size = 5 ∧ CellsAt w2 (⟨b1, 0, none⟩ : Addr) cs1.toList ∧
      (R (.returned (Value.tuple #[(Value.agg cs1), (Value.int .i64 6)])) w2))) (
    chk (decide (0 < ((a0n : Nat) : Int))) (
      optP a0p fun d1 =>
      ∃ (x1 : Int), w1.drew.cell? d1 = some (Value.int .u8 x1) ∧
      (chk (decide (1 < ((a0n : Nat) : Int))) (
          optP a0p fun d2 =>
          ∃ (x2 : Int), w1.drew.cell? (d2.add 1) = some (Value.int .u8 x2) ∧
          (chk (decide (1 < ((a0n : Nat) : Int))) (
              optP a0p fun d3 =>
              ∃ (x3 : Int), w1.drew.cell? (d3.add 1) = some (Value.int .u8 x3) ∧
              (chk (decide (2 < ((a0n : Nat) : Int))) (
                  optP a0p fun d4 =>
                  ∃ (x4 : Int), w1.drew.cell? (d4.add 2) = some (Value.int .u8 x4) ∧
                  (chk (decide (3 < ((a0n : Nat) : Int))) (
                      optP a0p fun d5 =>
                      ∃ (x5 : Int), w1.drew.cell? (d5.add 3) = some (Value.int .u8 x5) ∧
                      (chk (decide (4 < ((a0n : Nat) : Int))) (
                          optP a0p fun d6 =>
                          ∃ (x6 : Int), w1.drew.cell? (d6.add 4) = some (Value.int .u8 x6) ∧
                          (newP w1.drew #[(Value.int .i64 0), (Value.int .i64 0), (Value.int .i64 0), (Value.int .i64 0), (Value.complex .f64 0 0)] 52 fun b2 w3 =>
                          (Value.agg #[(Value.int .i64 (IntKind.i64.wrap x1)), (Value.int .i64 (IntKind.i64.wrap (Int.fdiv x2 (2 ^ (min 4 IntKind.u8.bits))))), (Value.int .i64 (IntKind.i64.wrap (IntKind.u8.wrap (BitVec.ofInt IntKind.u8.bits x3 &&& BitVec.ofInt IntKind.u8.bits 15).toNat))), (Value.int .i64 (IntKind.i64.wrap x4)), (Value.complex .f64 (FloatKind.f64.nearest x5) (FloatKind.f64.nearest x6))]) = (Value.agg #[(Value.int .i64 (IntKind.i64.wrap x1)), (Value.int .i64 (IntKind.i64.wrap (Int.fdiv x2 (2 ^ (min 4 IntKind.u8.bits))))), (Value.int .i64 (IntKind.i64.wrap (IntKind.u8.wrap (BitVec.ofInt IntKind.u8.bits x3 &&& BitVec.ofInt IntKind.u8.bits 15).toNat))), (Value.int .i64 (IntKind.i64.wrap x4)), (Value.complex .f64 (FloatKind.f64.nearest x5) (FloatKind.f64.nearest x6))]) ∧
                          (w3.cell? (d6.add 4) = some (Value.int .u8 x6) ∧
                          (w3.cell? (d5.add 3) = some (Value.int .u8 x5) ∧
                          (w3.cell? (d4.add 2) = some (Value.int .u8 x4) ∧
                          (w3.cell? (d3.add 1) = some (Value.int .u8 x3) ∧
                          (w3.cell? (d2.add 1) = some (Value.int .u8 x2) ∧
                          (w3.cell? d1 = some (Value.int .u8 x1) ∧
                          (Wr w3 (⟨b2, 0, none⟩ : Addr) [(Value.int .i64 (IntKind.i64.wrap x1)), (Value.int .i64 (IntKind.i64.wrap (Int.fdiv x2 (2 ^ (min 4 IntKind.u8.bits))))), (Value.int .i64 (IntKind.i64.wrap (IntKind.u8.wrap (BitVec.ofInt IntKind.u8.bits x3 &&& BitVec.ofInt IntKind.u8.bits 15).toNat))), (Value.int .i64 (IntKind.i64.wrap x4)), (Value.complex .f64 (FloatKind.f64.nearest x5) (FloatKind.f64.nearest x6))] ∧ ∀ w4, w4 = w3.setCells (⟨b2, 0, none⟩ : Addr).block (⟨b2, 0, none⟩ : Addr).off [(Value.int .i64 (IntKind.i64.wrap x1)), (Value.int .i64 (IntKind.i64.wrap (Int.fdiv x2 (2 ^ (min 4 IntKind.u8.bits))))), (Value.int .i64 (IntKind.i64.wrap (IntKind.u8.wrap (BitVec.ofInt IntKind.u8.bits x3 &&& BitVec.ofInt IntKind.u8.bits 15).toNat))), (Value.int .i64 (IntKind.i64.wrap x4)), (Value.complex .f64 (FloatKind.f64.nearest x5) (FloatKind.f64.nearest x6))] →
                          (∃ (cs2 : Array Value), cs2.size = 5 ∧ CellsAt w4 (⟨b2, 0, none⟩ : Addr) cs2.toList ∧
                          (callP Try.prog 27 #[(Value.agg cs2)] w4 (fun v1 w5 =>
                          dI .i64 v1 fun x7 =>
                          cond (x7 != 0) (
                          Wr w5 (⟨b1, 0, none⟩ : Addr) [(Value.int .i64 0), (Value.int .i64 0), (Value.int .i64 0), (Value.int .i64 0), (Value.complex .f64 0 0)] ∧ ∀ w7, w7 = w5.setCells (⟨b1, 0, none⟩ : Addr).block (⟨b1, 0, none⟩ : Addr).off [(Value.int .i64 0), (Value.int .i64 0), (Value.int .i64 0), (Value.int .i64 0), (Value.complex .f64 0 0)] →
                          (∃ (cs3 : Array Value), cs3.size = 5 ∧ CellsAt w7 (⟨b1, 0, none⟩ : Addr) cs3.toList ∧
                          (R (.returned (Value.tuple #[(Value.agg cs3), (Value.int .i64 2)])) w7))) (
                          ∃ (cs4 : Array Value), cs4.size = 5 ∧ CellsAt w5 (⟨b2, 0, none⟩ : Addr) cs4.toList ∧
                          (chk (decide (cs4.size = 5)) (
                          Wr w5 (⟨b1, 0, none⟩ : Addr) cs4.toList ∧ ∀ w8, w8 = w5.setCells (⟨b1, 0, none⟩ : Addr).block (⟨b1, 0, none⟩ : Addr).off cs4.toList →
                          (∃ (cs5 : Array Value), cs5.size = 5 ∧ CellsAt w8 (⟨b1, 0, none⟩ : Addr) cs5.toList ∧
                          (R (.returned (Value.tuple #[(Value.agg cs5), (Value.int .i64 0)])) w8)))))) (fun ch w6 => R (.panicked ch) w6)))))))))))))))))))))))
abbrev delta_Decode.C (a0p : Option Addr) (a0n : Nat) (a0c : Nat) (w : World) (R : Ending → World → Prop) : Prop := Calls Try.prog 32 #[(Value.slice a0p a0n a0c)] w R
noncomputable def delta_Decode.code : Code := (Try.f32.body).getD .skip
noncomputable def delta_Decode.sk (R : Ending → World → Prop) : Sk := .leaf
def delta_Decode.owed (R : Ending → World → Prop) : Prop :=
  True
theorem delta_Decode.pays (R : Ending → World → Prop) : delta_Decode.owed R := trivial
set_option maxRecDepth 100000 in
theorem delta_Decode.ok {a0p : Option Addr} {a0n : Nat} {a0c : Nat} {w : World} {R : Ending → World → Prop} (h : delta_Decode.main a0p a0n a0c w R) : delta_Decode.C a0p a0n a0c w R :=
  ev_ok cxok (c := cx) Try.func32 (code := delta_Decode.code) (by kernel_rfl) [.cell 2 52, .tmp 3] (by kernel_rfl) 42 (by kernel_rfl) (delta_Decode.sk R) (args := [(Value.slice a0p a0n a0c)]) (Nat.le_of_ble_eq_true rfl) (by kernel_rfl) (o := delta_Decode.owed R) (by kernel_rfl) (delta_Decode.pays R) h

/-! ### bytes.Equal: function 33 -/
def bytes_Equal.main (a0p : Option Addr) (a0n : Nat) (a0c : Nat) (a1p : Option Addr) (a1n : Nat) (a1c : Nat) (w : World) (R : Ending → World → Prop) : Prop :=
  ∃ (ns1 : List Int), ns1.length = a0n ∧ CellsO w a0p (ns1.map (Value.int .u8)) ∧
  (∃ (ns2 : List Int), ns2.length = a1n ∧ CellsO w a1p (ns2.map (Value.int .u8)) ∧
    (R (.returned (Value.bool ((strOf ns1).toList == (strOf ns2).toList))) w))
abbrev bytes_Equal.C (a0p : Option Addr) (a0n : Nat) (a0c : Nat) (a1p : Option Addr) (a1n : Nat) (a1c : Nat) (w : World) (R : Ending → World → Prop) : Prop := Calls Try.prog 33 #[(Value.slice a0p a0n a0c), (Value.slice a1p a1n a1c)] w R
noncomputable def bytes_Equal.code : Code := (Try.f33.body).getD .skip
noncomputable def bytes_Equal.sk (R : Ending → World → Prop) : Sk := .leaf
def bytes_Equal.owed (R : Ending → World → Prop) : Prop :=
  True
theorem bytes_Equal.pays (R : Ending → World → Prop) : bytes_Equal.owed R := trivial
set_option maxRecDepth 100000 in
theorem bytes_Equal.ok {a0p : Option Addr} {a0n : Nat} {a0c : Nat} {a1p : Option Addr} {a1n : Nat} {a1c : Nat} {w : World} {R : Ending → World → Prop} (h : bytes_Equal.main a0p a0n a0c a1p a1n a1c w R) : bytes_Equal.C a0p a0n a0c a1p a1n a1c w R :=
  ev_ok cxok (c := cx) Try.func33 (code := bytes_Equal.code) (by kernel_rfl) [.tmp 4] (by kernel_rfl) 10 (by kernel_rfl) (bytes_Equal.sk R) (args := [(Value.slice a0p a0n a0c), (Value.slice a1p a1n a1c)]) (Nat.le_of_ble_eq_true rfl) (by kernel_rfl) (o := bytes_Equal.owed R) (by kernel_rfl) (bytes_Equal.pays R) h

/-! ### stopcock/delta.in: function 39 -/
def delta_in.main (a0 : Int) (a1 : Int) (a2 : Int) (w : World) (R : Ending → World → Prop) : Prop :=
  cond (decide (a0 ≥ a1)) (
    R (.returned (Value.bool (decide (a0 < a2)))) w) (
    R (.returned (Value.bool false)) w)
abbrev delta_in.C (a0 : Int) (a1 : Int) (a2 : Int) (w : World) (R : Ending → World → Prop) : Prop := Calls Try.prog 39 #[(Value.int .i64 a0), (Value.int .i64 a1), (Value.int .i64 a2)] w R
noncomputable def delta_in.code : Code := (Try.f39.body).getD .skip
noncomputable def delta_in.sk (R : Ending → World → Prop) : Sk := .leaf
def delta_in.owed (R : Ending → World → Prop) : Prop :=
  True
theorem delta_in.pays (R : Ending → World → Prop) : delta_in.owed R := trivial
set_option maxRecDepth 100000 in
theorem delta_in.ok {a0 : Int} {a1 : Int} {a2 : Int} {w : World} {R : Ending → World → Prop} (h : delta_in.main a0 a1 a2 w R) : delta_in.C a0 a1 a2 w R :=
  ev_ok cxok (c := cx) Try.func39 (code := delta_in.code) (by kernel_rfl) [.tmp 6] (by kernel_rfl) 15 (by kernel_rfl) (delta_in.sk R) (args := [(Value.int .i64 a0), (Value.int .i64 a1), (Value.int .i64 a2)]) (Nat.le_of_ble_eq_true rfl) (by kernel_rfl) (o := delta_in.owed R) (by kernel_rfl) (delta_in.pays R) h

/-! ### stopcock/delta.rest: function 40 -/
def delta_rest.k1 (t1 : Nat) (t2 : Nat) (t4 : Bool) (w : World) (R : Ending → World → Prop) : Prop :=
  cond t4 (
    ∃ (x7 : Int), w.cell? (⟨t1, 3, none⟩ : Addr) = some (Value.int .i64 x7) ∧
    (callP Try.prog 39 #[(Value.int .i64 x7), (Value.int .i64 0), (Value.int .i64 32)] w (fun v5 w18 =>
        dB v5 fun b7 =>
        (w18.cell? (⟨t1, 3, none⟩ : Addr)).isSome = true ∧ w18.frozen? (⟨t1, 3, none⟩ : Addr) = false ∧ ∀ w20, w20 = w18.setCell (⟨t1, 3, none⟩ : Addr) (Value.int .i64 0) →
        (∃ (cs15 : Array Value), cs15.size = 5 ∧ CellsAt w20 (⟨t1, 0, none⟩ : Addr) cs15.toList ∧
          (chk (decide (cs15.size = 5)) (
              Wr w20 (⟨t2, 0, none⟩ : Addr) cs15.toList ∧ ∀ w29, w29 = w20.setCells (⟨t2, 0, none⟩ : Addr).block (⟨t2, 0, none⟩ : Addr).off cs15.toList →
              (∃ (cs16 : Array Value), cs16.size = 5 ∧ CellsAt w29 (⟨t2, 0, none⟩ : Addr) cs16.toList ∧
                (R (.returned (Value.tuple #[(Value.agg cs16), (Value.bool b7)])) w29)))))) (fun ch w19 => R (.panicked ch) w19))) (
    (w.cell? (⟨t1, 3, none⟩ : Addr)).isSome = true ∧ w.frozen? (⟨t1, 3, none⟩ : Addr) = false ∧ ∀ w21, w21 = w.setCell (⟨t1, 3, none⟩ : Addr) (Value.int .i64 0) →
    (∃ (cs17 : Array Value), cs17.size = 5 ∧ CellsAt w21 (⟨t1, 0, none⟩ : Addr) cs17.toList ∧
      (chk (decide (cs17.size = 5)) (
          Wr w21 (⟨t2, 0, none⟩ : Addr) cs17.toList ∧ ∀ w30, w30 = w21.setCells (⟨t2, 0, none⟩ : Addr).block (⟨t2, 0, none⟩ : Addr).off cs17.toList →
          (∃ (cs18 : Array Value), cs18.size = 5 ∧ CellsAt w30 (⟨t2, 0, none⟩ : Addr) cs18.toList ∧
            (R (.returned (Value.tuple #[(Value.agg cs18), (Value.bool false)])) w30))))))
def delta_rest.main (a0_0 : Int) (a0_1 : Int) (a0_2 : Int) (a0_3 : Int) (a0_4r : Nat) (a0_4m : Nat) (w : World) (R : Ending → World → Prop) : Prop :=
  newP w #[(Value.int .i64 a0_0), (Value.int .i64 a0_1), (Value.int .i64 a0_2), (Value.int .i64 a0_3), (Value.complex .f64 a0_4r a0_4m)] 52 fun b1 w1 =>
  newP w1 #[(Value.int .i64 0), (Value.int .i64 0), (Value.int .i64 0), (Value.int .i64 0), (Value.complex .f64 0 0)] 52 fun b2 w2 =>
  ∃ (x1 : Int), w2.cell? (⟨b1, 1, none⟩ : Addr) = some (Value.int .i64 x1) ∧
  (callP Try.prog 39 #[(Value.int .i64 x1), (Value.int .i64 0), (Value.int .i64 8)] w2 (fun v1 w3 =>
      dB v1 fun b3 =>
      ∃ (x2 : Int), w3.cell? (⟨b1, 0, none⟩ : Addr) = some (Value.int .i64 x2) ∧
      (cond (x2 == 1) (
          cond b3 (
            ∃ (x3 : Int), w3.cell? (⟨b1, 3, none⟩ : Addr) = some (Value.int .i64 x3) ∧
            (callP Try.prog 39 #[(Value.int .i64 x3), (Value.int .i64 1), (Value.int .i64 33)] w3 (fun v2 w5 =>
                dB v2 fun b4 =>
                (w5.cell? (⟨b1, 3, none⟩ : Addr)).isSome = true ∧ w5.frozen? (⟨b1, 3, none⟩ : Addr) = false ∧ ∀ w7, w7 = w5.setCell (⟨b1, 3, none⟩ : Addr) (Value.int .i64 0) →
                (∃ (cs3 : Array Value), cs3.size = 5 ∧ CellsAt w7 (⟨b1, 0, none⟩ : Addr) cs3.toList ∧
                  (chk (decide (cs3.size = 5)) (
                      Wr w7 (⟨b2, 0, none⟩ : Addr) cs3.toList ∧ ∀ w23, w23 = w7.setCells (⟨b2, 0, none⟩ : Addr).block (⟨b2, 0, none⟩ : Addr).off cs3.toList →
                      (∃ (cs4 : Array Value), cs4.size = 5 ∧ CellsAt w23 (⟨b2, 0, none⟩ : Addr) cs4.toList ∧
                        (R (.returned (Value.tuple #[(Value.agg cs4), (Value.bool b4)])) w23)))))) (fun ch w6 => R (.panicked ch) w6))) (
            (w3.cell? (⟨b1, 3, none⟩ : Addr)).isSome = true ∧ w3.frozen? (⟨b1, 3, none⟩ : Addr) = false ∧ ∀ w8, w8 = w3.setCell (⟨b1, 3, none⟩ : Addr) (Value.int .i64 0) →
            (∃ (cs5 : Array Value), cs5.size = 5 ∧ CellsAt w8 (⟨b1, 0, none⟩ : Addr) cs5.toList ∧
              (chk (decide (cs5.size = 5)) (
                  Wr w8 (⟨b2, 0, none⟩ : Addr) cs5.toList ∧ ∀ w24, w24 = w8.setCells (⟨b2, 0, none⟩ : Addr).block (⟨b2, 0, none⟩ : Addr).off cs5.toList →
                  (∃ (cs6 : Array Value), cs6.size = 5 ∧ CellsAt w24 (⟨b2, 0, none⟩ : Addr) cs6.toList ∧
                    (R (.returned (Value.tuple #[(Value.agg cs6), (Value.bool false)])) w24))))))) (
          cond (x2 == 2) (
            ∃ (cs7 : Array Value), cs7.size = 5 ∧ CellsAt w3 (⟨b1, 0, none⟩ : Addr) cs7.toList ∧
            (chk (decide (cs7.size = 5)) (
                Wr w3 (⟨b2, 0, none⟩ : Addr) cs7.toList ∧ ∀ w25, w25 = w3.setCells (⟨b2, 0, none⟩ : Addr).block (⟨b2, 0, none⟩ : Addr).off cs7.toList →
                (∃ (cs8 : Array Value), cs8.size = 5 ∧ CellsAt w25 (⟨b2, 0, none⟩ : Addr) cs8.toList ∧
                  (R (.returned (Value.tuple #[(Value.agg cs8), (Value.bool b3)])) w25))))) (
            cond (x2 == 3) (
              cond b3 (
                ∃ (x4 : Int), w3.cell? (⟨b1, 2, none⟩ : Addr) = some (Value.int .i64 x4) ∧
                (callP Try.prog 39 #[(Value.int .i64 x4), (Value.int .i64 0), (Value.int .i64 8)] w3 (fun v3 w9 =>
                    dB v3 fun b5 =>
                    cond b5 (
                      ∃ (x5 : Int), w9.cell? (⟨b1, 2, none⟩ : Addr) = some (Value.int .i64 x5) ∧
                      (∃ (x6 : Int), w9.cell? (⟨b1, 1, none⟩ : Addr) = some (Value.int .i64 x6) ∧
                        ((w9.cell? (⟨b1, 2, none⟩ : Addr)).isSome = true ∧ w9.frozen? (⟨b1, 2, none⟩ : Addr) = false ∧ ∀ w11, w11 = w9.setCell (⟨b1, 2, none⟩ : Addr) (Value.int .i64 0) →
                          (∃ (cs9 : Array Value), cs9.size = 5 ∧ CellsAt w11 (⟨b1, 0, none⟩ : Addr) cs9.toList ∧
                          (chk (decide (cs9.size = 5)) (
                          Wr w11 (⟨b2, 0, none⟩ : Addr) cs9.toList ∧ ∀ w26, w26 = w11.setCells (⟨b2, 0, none⟩ : Addr).block (⟨b2, 0, none⟩ : Addr).off cs9.toList →
                          (∃ (cs10 : Array Value), cs10.size = 5 ∧ CellsAt w26 (⟨b2, 0, none⟩ : Addr) cs10.toList ∧
                          (R (.returned (Value.tuple #[(Value.agg cs10), (Value.bool (x5 != x6))])) w26)))))))) (
                      (w9.cell? (⟨b1, 2, none⟩ : Addr)).isSome = true ∧ w9.frozen? (⟨b1, 2, none⟩ : Addr) = false ∧ ∀ w12, w12 = w9.setCell (⟨b1, 2, none⟩ : Addr) (Value.int .i64 0) →
                      (∃ (cs11 : Array Value), cs11.size = 5 ∧ CellsAt w12 (⟨b1, 0, none⟩ : Addr) cs11.toList ∧
                        (chk (decide (cs11.size = 5)) (
                          Wr w12 (⟨b2, 0, none⟩ : Addr) cs11.toList ∧ ∀ w27, w27 = w12.setCells (⟨b2, 0, none⟩ : Addr).block (⟨b2, 0, none⟩ : Addr).off cs11.toList →
                          (∃ (cs12 : Array Value), cs12.size = 5 ∧ CellsAt w27 (⟨b2, 0, none⟩ : Addr) cs12.toList ∧
                          (R (.returned (Value.tuple #[(Value.agg cs12), (Value.bool false)])) w27))))))) (fun ch w10 => R (.panicked ch) w10))) (
                (w3.cell? (⟨b1, 2, none⟩ : Addr)).isSome = true ∧ w3.frozen? (⟨b1, 2, none⟩ : Addr) = false ∧ ∀ w13, w13 = w3.setCell (⟨b1, 2, none⟩ : Addr) (Value.int .i64 0) →
                (∃ (cs13 : Array Value), cs13.size = 5 ∧ CellsAt w13 (⟨b1, 0, none⟩ : Addr) cs13.toList ∧
                  (chk (decide (cs13.size = 5)) (
                      Wr w13 (⟨b2, 0, none⟩ : Addr) cs13.toList ∧ ∀ w28, w28 = w13.setCells (⟨b2, 0, none⟩ : Addr).block (⟨b2, 0, none⟩ : Addr).off cs13.toList →
                      (∃ (cs14 : Array Value), cs14.size = 5 ∧ CellsAt w28 (⟨b2, 0, none⟩ : Addr) cs14.toList ∧
                        (R (.returned (Value.tuple #[(Value.agg cs14), (Value.bool false)])) w28))))))) (
              cond (x2 == 4) (
                cond b3 (
                  ∃ (r1 : Nat) (m1 : Nat), w3.cell? (⟨b1, 4, none⟩ : Addr) = some (Value.complex .f64 r1 m1) ∧
                  (callP Try.prog 48 #[(Value.complex .f64 r1 m1)] w3 (fun v4 w14 =>
                      dB v4 fun b6 =>
                      (w14.cell? (⟨b1, 4, none⟩ : Addr)).isSome = true ∧ w14.frozen? (⟨b1, 4, none⟩ : Addr) = false ∧ ∀ w16, w16 = w14.setCell (⟨b1, 4, none⟩ : Addr) (Value.complex .f64 0 0) →
                      (delta_rest.k1 b1 b2 b6 w16 R)) (fun ch w15 => R (.panicked ch) w15))) (
                  (w3.cell? (⟨b1, 4, none⟩ : Addr)).isSome = true ∧ w3.frozen? (⟨b1, 4, none⟩ : Addr) = false ∧ ∀ w17, w17 = w3.setCell (⟨b1, 4, none⟩ : Addr) (Value.complex .f64 0 0) →
                  (delta_rest.k1 b1 b2 false w17 R))) (
                cond (x2 == 5) (
                  delta_rest.k1 b1 b2 b3 w3 R) (
                  ∃ (cs1 : Array Value), cs1.size = 5 ∧ CellsAt w3 (⟨b1, 0, none⟩ : Addr) cs1.toList ∧
                  (chk (decide (cs1.size = 5)) (
                      Wr w3 (⟨b2, 0, none⟩ : Addr) cs1.toList ∧ ∀ w22, w22 = w3.setCells (⟨b2, 0, none⟩ : Addr).block (⟨b2, 0, none⟩ : Addr).off cs1.toList →
                      (∃ (cs2 : Array Value), cs2.size = 5 ∧ CellsAt w22 (⟨b2, 0, none⟩ : Addr) cs2.toList ∧
                        (R (.returned (Value.tuple #[(Value.agg cs2), (Value.bool b3)])) w22))))))))))) (fun ch w4 => R (.panicked ch) w4))
abbrev delta_rest.C (a0_0 : Int) (a0_1 : Int) (a0_2 : Int) (a0_3 : Int) (a0_4r : Nat) (a0_4m : Nat) (w : World) (R : Ending → World → Prop) : Prop := Calls Try.prog 40 #[(Value.agg #[(Value.int .i64 a0_0), (Value.int .i64 a0_1), (Value.int .i64 a0_2), (Value.int .i64 a0_3), (Value.complex .f64 a0_4r a0_4m)])] w R
noncomputable def delta_rest.code : Code := (Try.f40.body).getD .skip
noncomputable def delta_rest.sk (R : Ending → World → Prop) : Sk := (.seq .leaf (.seq .leaf (.seq (.seq .leaf (.block (.cut [(1, .blk), (2, .blk), (4, .bool)] (fun (t1 : Nat) (t2 : Nat) (t4 : Bool) (w : World) => delta_rest.k1 t1 t2 t4 w R) .leaf .leaf))) .leaf)))
def delta_rest.owed (R : Ending → World → Prop) : Prop :=
  (∀ (t1 : Nat) (t2 : Nat) (t4 : Bool) (w : World), delta_rest.k1 t1 t2 t4 w R → delta_rest.k1 t1 t2 t4 w R) ∧ True
theorem delta_rest.pays (R : Ending → World → Prop) : delta_rest.owed R := ⟨(fun _ _ _ _ h => h), trivial⟩
set_option maxRecDepth 100000 in
theorem delta_rest.ok {a0_0 : Int} {a0_1 : Int} {a0_2 : Int} {a0_3 : Int} {a0_4r : Nat} {a0_4m : Nat} {w : World} {R : Ending → World → Prop} (h : delta_rest.main a0_0 a0_1 a0_2 a0_3 a0_4r a0_4m w R) : delta_rest.C a0_0 a0_1 a0_2 a0_3 a0_4r a0_4m w R :=
  ev_ok cxok (c := cx) Try.func40 (code := delta_rest.code) (by kernel_rfl) [.cell 2 52, .tmp 3] (by kernel_rfl) 57 (by kernel_rfl) (delta_rest.sk R) (args := [(Value.agg #[(Value.int .i64 a0_0), (Value.int .i64 a0_1), (Value.int .i64 a0_2), (Value.int .i64 a0_3), (Value.complex .f64 a0_4r a0_4m)])]) (Nat.le_of_ble_eq_true rfl) (by kernel_rfl) (o := delta_rest.owed R) (by kernel_rfl) (delta_rest.pays R) h

/-! ### stopcock/cell.Row: function 42 -/
def cell_Row.b1 (t0 : Int) (t4p : Option Addr) (t4n : Nat) (t4c : Nat) (t11p : Option Addr) (t11n : Nat) (t11c : Nat) (t12 : Int) (t13 : Int) (w : World) (R : Ending → World → Prop) (C1 : Int → Option Addr → Nat → Nat → Option Addr → Nat → Nat → Int → Int → World → Prop) : Prop :=
  cond (decide (t13 < t12)) (
    chk (decide (0 ≤ t13)) (
      chk (decide (t13 < ((t11n : Nat) : Int))) (
        optP t11p fun d1 =>
        ∃ (x1 : Int), w.cell? (d1.add (t13.toNat * 1)) = some (Value.int .i64 x1) ∧
        (callP Try.prog 50 #[(Value.slice t4p t4n t4c), (Value.int .i64 t0), (Value.int .i64 x1)] w (fun v2 w3 =>
            dT v2 fun vs1 =>
            optP (vs1[0]?) fun v3 =>
            dS v3 fun p1 n1 c1 =>
            optP (vs1[1]?) fun v4 =>
            dI .i64 v4 fun x2 =>
            cond (x2 != 0) (
              R (.returned (Value.tuple #[(Value.slice none 0 0), (Value.int .i64 x2)])) w3) (
              C1 t0 p1 n1 c1 t11p t11n t11c t12 (IntKind.i64.wrap (t13 + 1)) w3)) (fun ch w4 => R (.panicked ch) w4))))) (
    R (.returned (Value.tuple #[(Value.slice t4p t4n t4c), (Value.int .i64 0)])) w)
def cell_Row.l1 (t0 : Int) (t4p : Option Addr) (t4n : Nat) (t4c : Nat) (t11p : Option Addr) (t11n : Nat) (t11c : Nat) (t12 : Int) (t13 : Int) (w : World) (R : Ending → World → Prop) : Prop :=
  ∃ (I : Int → Option Addr → Nat → Nat → Option Addr → Nat → Nat → Int → Int → World → Prop) (m : Int → Option Addr → Nat → Nat → Option Addr → Nat → Nat → Int → Int → World → Nat), I t0 t4p t4n t4c t11p t11n t11c t12 t13 w ∧
  ∀ (t0 : Int) (t4p : Option Addr) (t4n : Nat) (t4c : Nat) (t11p : Option Addr) (t11n : Nat) (t11c : Nat) (t12 : Int) (t13 : Int) (w : World), I t0 t4p t4n t4c t11p t11n t11c t12 t13 w →
  cell_Row.b1 t0 t4p t4n t4c t11p t11n t11c t12 t13 w R (fun t0' t4p' t4n' t4c' t11p' t11n' t11c' t12' t13' w' => I t0' t4p' t4n' t4c' t11p' t11n' t11c' t12' t13' w' ∧ m t0' t4p' t4n' t4c' t11p' t11n' t11c' t12' t13' w' < m t0 t4p t4n t4c t11p t11n t11c t12 t13 w)
def cell_Row.main (a0 : Int) (a1p : Option Addr) (a1n : Nat) (a1c : Nat) (w : World) (R : Ending → World → Prop) : Prop :=
  callP Try.prog 49 #[(Value.int .i64 a0)] w (fun v1 w1 =>
    dB v1 fun b1 =>
    cond (!b1) (
      R (.returned (Value.tuple #[(Value.slice none 0 0), (Value.int .i64 1)])) w1) (
      cell_Row.l1 a0 none 0 0 a1p a1n a1c ((a1n : Nat) : Int) 0 w1 R)) (fun ch w2 => R (.panicked ch) w2)
abbrev cell_Row.C (a0 : Int) (a1p : Option Addr) (a1n : Nat) (a1c : Nat) (w : World) (R : Ending → World → Prop) : Prop := Calls Try.prog 42 #[(Value.int .i64 a0), (Value.slice a1p a1n a1c)] w R
noncomputable def cell_Row.code : Code := (Try.f42.body).getD .skip
noncomputable def cell_Row.sk (R : Ending → World → Prop) : Sk := (.seq .leaf (.seq .leaf (.seq (.seq .leaf (.block (.loop [(0, .int .i64), (4, .slice), (11, .slice), (12, .int .i64), (13, .int .i64)] (fun (t0 : Int) (t4p : Option Addr) (t4n : Nat) (t4c : Nat) (t11p : Option Addr) (t11n : Nat) (t11c : Nat) (t12 : Int) (t13 : Int) (w : World) => cell_Row.l1 t0 t4p t4n t4c t11p t11n t11c t12 t13 w R) (fun (C1 : Int → Option Addr → Nat → Nat → Option Addr → Nat → Nat → Int → Int → World → Prop) => .leaf)))) .leaf)))
def cell_Row.owed (R : Ending → World → Prop) : Prop :=
  (∀ (t0 : Int) (t4p : Option Addr) (t4n : Nat) (t4c : Nat) (t11p : Option Addr) (t11n : Nat) (t11c : Nat) (t12 : Int) (t13 : Int) (w : World), cell_Row.l1 t0 t4p t4n t4c t11p t11n t11c t12 t13 w R → cell_Row.l1 t0 t4p t4n t4c t11p t11n t11c t12 t13 w R) ∧ (∀ (C1 : Int → Option Addr → Nat → Nat → Option Addr → Nat → Nat → Int → Int → World → Prop), True) ∧ True
theorem cell_Row.pays (R : Ending → World → Prop) : cell_Row.owed R := ⟨(fun _ _ _ _ _ _ _ _ _ _ h => h), (fun _ => trivial), trivial⟩
set_option maxRecDepth 100000 in
theorem cell_Row.ok {a0 : Int} {a1p : Option Addr} {a1n : Nat} {a1c : Nat} {w : World} {R : Ending → World → Prop} (h : cell_Row.main a0 a1p a1n a1c w R) : cell_Row.C a0 a1p a1n a1c w R :=
  ev_ok cxok (c := cx) Try.func42 (code := cell_Row.code) (by kernel_rfl) [.tmp 4, .tmp 5] (by kernel_rfl) 29 (by kernel_rfl) (cell_Row.sk R) (args := [(Value.int .i64 a0), (Value.slice a1p a1n a1c)]) (Nat.le_of_ble_eq_true rfl) (by kernel_rfl) (o := cell_Row.owed R) (by kernel_rfl) (cell_Row.pays R) h

end Go.Proofs.Ytnbegeghcjldfaa.G

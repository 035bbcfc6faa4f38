/- Statements of functions, and that their calls do what they say. Printed by wip/tool/dec.py. Conditions: none. -/
import Derived.Test.YtlcnjadfkpkgjaaG0
namespace Go.Proofs.Ytlcnjadfkpkgjaa.G
open Go.Dec
set_option linter.unusedVariables false

/-! ### stopcock/stopcocklaw04.CellBack: function 5 -/
def stopcocklaw04_CellBack.k1 (t0p : Option Addr) (t0n : Nat) (t0c : Nat) (t1p : Option Addr) (t1n : Nat) (t1c : Nat) (t3 : Int) (t9 : Int) (t10p : Option Addr) (t10n : Nat) (t10c : Nat) (t11 : Int) (t30 : Bool) (w : World) (R : Ending → World → Prop) : Prop :=
  cond t30 (
    callP Try.prog 12 #[] w (fun v5 w5 =>
      dB v5 fun b2 =>
      cond b2 (
        R (.returned (Value.bool (t11 == 5))) w5) (
        R (.returned (Value.bool false)) w5)) (fun ch w6 => R (.panicked ch) w6)) (
    newP w #[] 5 fun b3 w7 =>
    appP w7 (some ⟨b3, 0, none⟩) 0 0 t10n (CellsO w7 t10p) 5 1 1 #[(Value.int .u8 0)] fun p2 c2 w8 =>
    appP w8 p2 (0 + t10n) c2 t1n (CellsO w8 t1p) 5 1 1 #[(Value.int .u8 0)] fun p3 c3 w9 =>
    callP Try.prog 13 #[(Value.slice p3 ((0 + t10n) + t1n) c3), (Value.int .i64 ((t0n : Nat) : Int)), (Value.int .i64 t9)] w9 (fun v6 w10 =>
      dT v6 fun vs2 =>
      optP (vs2[0]?) fun v7 =>
      dI .i64 v7 fun x2 =>
      optP (vs2[1]?) fun v8 =>
      dI .i64 v8 fun x3 =>
      cond (x3 == 0) (
        cond (x2 == t3) (
          cond (((t10n : Nat) : Int) == (IntKind.i64.wrap (((t0n : Nat) : Int) + t9))) (
            chk (decide (0 ≤ ((t0n : Nat) : Int))) (
              chk (decide (((t0n : Nat) : Int) ≤ ((t10c : Nat) : Int))) (
                ∃ (ns1 : List Int), ns1.length = t0n ∧ CellsO w10 (slA t10p t10c 0 1) (ns1.map (Value.int .u8)) ∧
                (∃ (ns2 : List Int), ns2.length = t0n ∧ CellsO w10 t0p (ns2.map (Value.int .u8)) ∧
                  (∀ k1 : Nat,
                    R (.returned (Value.bool ((strOf ns1).toList == (strOf ns2).toList))) (w10.drewN k1)))))) (
            ∀ k1 : Nat,
            R (.returned (Value.bool false)) (w10.drewN k1))) (
          ∀ k1 : Nat,
          R (.returned (Value.bool false)) (w10.drewN k1))) (
        ∀ k1 : Nat,
        R (.returned (Value.bool false)) (w10.drewN k1))) (fun ch w11 => R (.panicked ch) w11))
def stopcocklaw04_CellBack.main (a0p : Option Addr) (a0n : Nat) (a0c : Nat) (a1p : Option Addr) (a1n : Nat) (a1c : Nat) (a2 : Int) (a3 : Int) (w : World) (R : Ending → World → Prop) : Prop :=
  callP Try.prog 10 #[(Value.slice a0p a0n a0c), (Value.int .i64 (IntKind.i64.wrap (1 + (IntKind.i64.wrap (Int.tmod a2 4))))), (Value.int .i64 a3)] w (fun v1 w1 =>
    dT v1 fun vs1 =>
    optP (vs1[0]?) fun v2 =>
    dS v2 fun p1 n1 c1 =>
    optP (vs1[1]?) fun v3 =>
    dI .i64 v3 fun x1 =>
    callP Try.prog 12 #[] w1 (fun v4 w3 =>
      dB v4 fun b1 =>
      cond (!b1) (
        stopcocklaw04_CellBack.k1 a0p a0n a0c a1p a1n a1c a3 (IntKind.i64.wrap (1 + (IntKind.i64.wrap (Int.tmod a2 4)))) p1 n1 c1 x1 true w3 R) (
        stopcocklaw04_CellBack.k1 a0p a0n a0c a1p a1n a1c a3 (IntKind.i64.wrap (1 + (IntKind.i64.wrap (Int.tmod a2 4)))) p1 n1 c1 x1 (x1 != 0) w3 R)) (fun ch w4 => R (.panicked ch) w4)) (fun ch w2 => R (.panicked ch) w2)
abbrev stopcocklaw04_CellBack.C (a0p : Option Addr) (a0n : Nat) (a0c : Nat) (a1p : Option Addr) (a1n : Nat) (a1c : Nat) (a2 : Int) (a3 : Int) (w : World) (R : Ending → World → Prop) : Prop := Calls Try.prog 5 #[(Value.slice a0p a0n a0c), (Value.slice a1p a1n a1c), (Value.int .u8 a2), (Value.int .i64 a3)] w R
noncomputable def stopcocklaw04_CellBack.code : Code := (Try.f5.body).getD .skip
noncomputable def stopcocklaw04_CellBack.sk (R : Ending → World → Prop) : Sk := (.seq .leaf (.seq .leaf (.seq .leaf (.seq (.cut [(0, .slice), (1, .slice), (3, .int .i64), (9, .int .i64), (10, .slice), (11, .int .i64), (30, .bool)] (fun (t0p : Option Addr) (t0n : Nat) (t0c : Nat) (t1p : Option Addr) (t1n : Nat) (t1c : Nat) (t3 : Int) (t9 : Int) (t10p : Option Addr) (t10n : Nat) (t10c : Nat) (t11 : Int) (t30 : Bool) (w : World) => stopcocklaw04_CellBack.k1 t0p t0n t0c t1p t1n t1c t3 t9 t10p t10n t10c t11 t30 w R) .leaf .leaf) .leaf))))
def stopcocklaw04_CellBack.owed (R : Ending → World → Prop) : Prop :=
  (∀ (t0p : Option Addr) (t0n : Nat) (t0c : Nat) (t1p : Option Addr) (t1n : Nat) (t1c : Nat) (t3 : Int) (t9 : Int) (t10p : Option Addr) (t10n : Nat) (t10c : Nat) (t11 : Int) (t30 : Bool) (w : World), stopcocklaw04_CellBack.k1 t0p t0n t0c t1p t1n t1c t3 t9 t10p t10n t10c t11 t30 w R → stopcocklaw04_CellBack.k1 t0p t0n t0c t1p t1n t1c t3 t9 t10p t10n t10c t11 t30 w R) ∧ True
theorem stopcocklaw04_CellBack.pays (R : Ending → World → Prop) : stopcocklaw04_CellBack.owed R := ⟨(fun _ _ _ _ _ _ _ _ _ _ _ _ _ _ h => h), trivial⟩
set_option maxRecDepth 100000 in
theorem stopcocklaw04_CellBack.ok {a0p : Option Addr} {a0n : Nat} {a0c : Nat} {a1p : Option Addr} {a1n : Nat} {a1c : Nat} {a2 : Int} {a3 : Int} {w : World} {R : Ending → World → Prop} (h : stopcocklaw04_CellBack.main a0p a0n a0c a1p a1n a1c a2 a3 w R) : stopcocklaw04_CellBack.C a0p a0n a0c a1p a1n a1c a2 a3 w R :=
  ev_ok cxok (c := cx) Try.func5 (code := stopcocklaw04_CellBack.code) (by kernel_rfl) [.tmp 8] (by kernel_rfl) 74 (by kernel_rfl) (stopcocklaw04_CellBack.sk R) (args := [(Value.slice a0p a0n a0c), (Value.slice a1p a1n a1c), (Value.int .u8 a2), (Value.int .i64 a3)]) (Nat.le_of_ble_eq_true rfl) (by kernel_rfl) (o := stopcocklaw04_CellBack.owed R) (by kernel_rfl) (stopcocklaw04_CellBack.pays R) h

/-! ### stopcock/stopcocklaw04.CellOrder: function 6 -/
def stopcocklaw04_CellOrder.main (a0 : Int) (a1 : Int) (a2 : Int) (w : World) (R : Ending → World → Prop) : Prop :=
  callP Try.prog 10 #[(Value.slice none 0 0), (Value.int .i64 (IntKind.i64.wrap (1 + (IntKind.i64.wrap (Int.tmod a0 4))))), (Value.int .i64 a1)] w (fun v1 w1 =>
    dT v1 fun vs1 =>
    optP (vs1[0]?) fun v2 =>
    dS v2 fun p1 n1 c1 =>
    optP (vs1[1]?) fun v3 =>
    dI .i64 v3 fun x1 =>
    callP Try.prog 10 #[(Value.slice none 0 0), (Value.int .i64 (IntKind.i64.wrap (1 + (IntKind.i64.wrap (Int.tmod a0 4))))), (Value.int .i64 a2)] w1 (fun v4 w3 =>
      dT v4 fun vs2 =>
      optP (vs2[0]?) fun v5 =>
      dS v5 fun p2 n2 c2 =>
      optP (vs2[1]?) fun v6 =>
      dI .i64 v6 fun x2 =>
      callP Try.prog 12 #[] w3 (fun v7 w5 =>
        dB v7 fun b1 =>
        cond (!b1) (
          callP Try.prog 12 #[] w5 (fun v8 w7 =>
            dB v8 fun b2 =>
            R (.returned (Value.bool b2)) w7) (fun ch w8 => R (.panicked ch) w8)) (
          cond (x1 != 0) (
            callP Try.prog 12 #[] w5 (fun v9 w9 =>
              dB v9 fun b3 =>
              R (.returned (Value.bool b3)) w9) (fun ch w10 => R (.panicked ch) w10)) (
            cond (x2 != 0) (
              callP Try.prog 12 #[] w5 (fun v10 w11 =>
                dB v10 fun b4 =>
                R (.returned (Value.bool b4)) w11) (fun ch w12 => R (.panicked ch) w12)) (
              ∃ (ns1 : List Int), ns1.length = n1 ∧ CellsO w5 p1 (ns1.map (Value.int .u8)) ∧
              (∃ (ns2 : List Int), ns2.length = n2 ∧ CellsO w5 p2 (ns2.map (Value.int .u8)) ∧
                (cond ((decide (a1 < a2)) == (Op.bytesLess (strOf ns1).toList (strOf ns2).toList)) (
                    ∃ (ns3 : List Int), ns3.length = n1 ∧ CellsO w5 p1 (ns3.map (Value.int .u8)) ∧
                    (∃ (ns4 : List Int), ns4.length = n2 ∧ CellsO w5 p2 (ns4.map (Value.int .u8)) ∧
                      (R (.returned (Value.bool ((a1 == a2) == ((strOf ns3).toList == (strOf ns4).toList)))) w5))) (
                    R (.returned (Value.bool false)) w5))))))) (fun ch w6 => R (.panicked ch) w6)) (fun ch w4 => R (.panicked ch) w4)) (fun ch w2 => R (.panicked ch) w2)
abbrev stopcocklaw04_CellOrder.C (a0 : Int) (a1 : Int) (a2 : Int) (w : World) (R : Ending → World → Prop) : Prop := Calls Try.prog 6 #[(Value.int .u8 a0), (Value.int .i64 a1), (Value.int .i64 a2)] w R
noncomputable def stopcocklaw04_CellOrder.code : Code := (Try.f6.body).getD .skip
noncomputable def stopcocklaw04_CellOrder.sk (R : Ending → World → Prop) : Sk := .leaf
def stopcocklaw04_CellOrder.owed (R : Ending → World → Prop) : Prop :=
  True
theorem stopcocklaw04_CellOrder.pays (R : Ending → World → Prop) : stopcocklaw04_CellOrder.owed R := trivial
set_option maxRecDepth 100000 in
theorem stopcocklaw04_CellOrder.ok {a0 : Int} {a1 : Int} {a2 : Int} {w : World} {R : Ending → World → Prop} (h : stopcocklaw04_CellOrder.main a0 a1 a2 w R) : stopcocklaw04_CellOrder.C a0 a1 a2 w R :=
  ev_ok cxok (c := cx) Try.func6 (code := stopcocklaw04_CellOrder.code) (by kernel_rfl) [.tmp 6] (by kernel_rfl) 59 (by kernel_rfl) (stopcocklaw04_CellOrder.sk R) (args := [(Value.int .u8 a0), (Value.int .i64 a1), (Value.int .i64 a2)]) (Nat.le_of_ble_eq_true rfl) (by kernel_rfl) (o := stopcocklaw04_CellOrder.owed R) (by kernel_rfl) (stopcocklaw04_CellOrder.pays R) h

/-! ### stopcock/stopcocklaw04.CellWide: function 7 -/
def stopcocklaw04_CellWide.main (a0 : Int) (a1 : Int) (a2 : Int) (w : World) (R : Ending → World → Prop) : Prop :=
  chk (decide ((IntKind.i64.wrap (5 - (IntKind.i64.wrap (1 + (IntKind.i64.wrap (Int.tmod a0 4)))))) ≠ 0)) (
    callP Try.prog 10 #[(Value.slice none 0 0), (Value.int .i64 (IntKind.i64.wrap (1 + (IntKind.i64.wrap (Int.tmod a0 4))))), (Value.int .i64 a2)] w (fun v1 w1 =>
      dT v1 fun vs1 =>
      optP (vs1[0]?) fun v2 =>
      dS v2 fun p1 n1 c1 =>
      optP (vs1[1]?) fun v3 =>
      dI .i64 v3 fun x1 =>
      newP w1 (madeCells #[(Value.int .u8 0)] (0 * 1)) 5 fun b1 w3 =>
      callP Try.prog 10 #[(Value.slice (some ⟨b1, 0, none⟩) 0 0), (Value.int .i64 (IntKind.i64.wrap ((IntKind.i64.wrap (1 + (IntKind.i64.wrap (Int.tmod a0 4)))) + (Int.tmod (IntKind.i64.wrap a1) (IntKind.i64.wrap (5 - (IntKind.i64.wrap (1 + (IntKind.i64.wrap (Int.tmod a0 4)))))))))), (Value.int .i64 a2)] w3 (fun v4 w4 =>
        dT v4 fun vs2 =>
        optP (vs2[0]?) fun v5 =>
        dS v5 fun p2 n2 c2 =>
        optP (vs2[1]?) fun v6 =>
        dI .i64 v6 fun x2 =>
        callP Try.prog 12 #[] w4 (fun v7 w6 =>
          dB v7 fun b2 =>
          cond (!b2) (
            callP Try.prog 12 #[] w6 (fun v8 w8 =>
              dB v8 fun b3 =>
              R (.returned (Value.bool b3)) w8) (fun ch w9 => R (.panicked ch) w9)) (
            cond (x1 != 0) (
              callP Try.prog 12 #[] w6 (fun v9 w10 =>
                dB v9 fun b4 =>
                R (.returned (Value.bool b4)) w10) (fun ch w11 => R (.panicked ch) w11)) (
              ∃ (ns1 : List Int), ns1.length = n1 ∧ CellsO w6.drew p1 (ns1.map (Value.int .u8)) ∧
              (chk (decide (0 ≤ (IntKind.i64.wrap ((IntKind.i64.wrap ((IntKind.i64.wrap (1 + (IntKind.i64.wrap (Int.tmod a0 4)))) + (Int.tmod (IntKind.i64.wrap a1) (IntKind.i64.wrap (5 - (IntKind.i64.wrap (1 + (IntKind.i64.wrap (Int.tmod a0 4))))))))) - (IntKind.i64.wrap (1 + (IntKind.i64.wrap (Int.tmod a0 4)))))))) (
                  chk (decide ((IntKind.i64.wrap ((IntKind.i64.wrap ((IntKind.i64.wrap (1 + (IntKind.i64.wrap (Int.tmod a0 4)))) + (Int.tmod (IntKind.i64.wrap a1) (IntKind.i64.wrap (5 - (IntKind.i64.wrap (1 + (IntKind.i64.wrap (Int.tmod a0 4))))))))) - (IntKind.i64.wrap (1 + (IntKind.i64.wrap (Int.tmod a0 4)))))) ≤ (IntKind.i64.wrap ((IntKind.i64.wrap ((IntKind.i64.wrap (1 + (IntKind.i64.wrap (Int.tmod a0 4)))) + (Int.tmod (IntKind.i64.wrap a1) (IntKind.i64.wrap (5 - (IntKind.i64.wrap (1 + (IntKind.i64.wrap (Int.tmod a0 4))))))))) - (IntKind.i64.wrap (1 + (IntKind.i64.wrap (Int.tmod a0 4)))))))) (
                    chk (decide ((1 : Int) * (IntKind.i64.wrap ((IntKind.i64.wrap ((IntKind.i64.wrap (1 + (IntKind.i64.wrap (Int.tmod a0 4)))) + (Int.tmod (IntKind.i64.wrap a1) (IntKind.i64.wrap (5 - (IntKind.i64.wrap (1 + (IntKind.i64.wrap (Int.tmod a0 4))))))))) - (IntKind.i64.wrap (1 + (IntKind.i64.wrap (Int.tmod a0 4)))))) ≤ 281474976710656 ∧ (IntKind.i64.wrap ((IntKind.i64.wrap ((IntKind.i64.wrap (1 + (IntKind.i64.wrap (Int.tmod a0 4)))) + (Int.tmod (IntKind.i64.wrap a1) (IntKind.i64.wrap (5 - (IntKind.i64.wrap (1 + (IntKind.i64.wrap (Int.tmod a0 4))))))))) - (IntKind.i64.wrap (1 + (IntKind.i64.wrap (Int.tmod a0 4)))))) ≤ 9223372036854775807)) (
                      newP w6.drew (madeCells #[(Value.int .u8 0)] ((IntKind.i64.wrap ((IntKind.i64.wrap ((IntKind.i64.wrap (1 + (IntKind.i64.wrap (Int.tmod a0 4)))) + (Int.tmod (IntKind.i64.wrap a1) (IntKind.i64.wrap (5 - (IntKind.i64.wrap (1 + (IntKind.i64.wrap (Int.tmod a0 4))))))))) - (IntKind.i64.wrap (1 + (IntKind.i64.wrap (Int.tmod a0 4)))))).toNat * 1)) 5 fun b5 w12 =>
                      ∃ (ns2 : List Int), ns2.length = n1 ∧ CellsO w12 p1 (ns2.map (Value.int .u8)) ∧
                      ((Value.string (strOf ns2)) = (Value.string (strOf ns1)) ∧
                        (∃ (ns3 : List Int), ns3.length = (IntKind.i64.wrap ((IntKind.i64.wrap ((IntKind.i64.wrap (1 + (IntKind.i64.wrap (Int.tmod a0 4)))) + (Int.tmod (IntKind.i64.wrap a1) (IntKind.i64.wrap (5 - (IntKind.i64.wrap (1 + (IntKind.i64.wrap (Int.tmod a0 4))))))))) - (IntKind.i64.wrap (1 + (IntKind.i64.wrap (Int.tmod a0 4)))))).toNat ∧ CellsO w12 (some ⟨b5, 0, none⟩) (ns3.map (Value.int .u8)) ∧
                          (chk (decide ((((strOf ns3).size + (strOf ns1).size : Nat) : Int) ≤ IntKind.i64.max)) (
                          cond (x2 == 0) (
                          ∃ (ns4 : List Int), ns4.length = n2 ∧ CellsO w12 p2 (ns4.map (Value.int .u8)) ∧
                          (R (.returned (Value.bool ((strOf ns4).toList == ((strOf ns3) ++ (strOf ns1)).toList))) w12)) (
                          R (.returned (Value.bool false)) w12)))))))))))) (fun ch w7 => R (.panicked ch) w7)) (fun ch w5 => R (.panicked ch) w5)) (fun ch w2 => R (.panicked ch) w2))
abbrev stopcocklaw04_CellWide.C (a0 : Int) (a1 : Int) (a2 : Int) (w : World) (R : Ending → World → Prop) : Prop := Calls Try.prog 7 #[(Value.int .u8 a0), (Value.int .u8 a1), (Value.int .i64 a2)] w R
noncomputable def stopcocklaw04_CellWide.code : Code := (Try.f7.body).getD .skip
noncomputable def stopcocklaw04_CellWide.sk (R : Ending → World → Prop) : Sk := .leaf
def stopcocklaw04_CellWide.owed (R : Ending → World → Prop) : Prop :=
  True
theorem stopcocklaw04_CellWide.pays (R : Ending → World → Prop) : stopcocklaw04_CellWide.owed R := trivial
set_option maxRecDepth 100000 in
theorem stopcocklaw04_CellWide.ok {a0 : Int} {a1 : Int} {a2 : Int} {w : World} {R : Ending → World → Prop} (h : stopcocklaw04_CellWide.main a0 a1 a2 w R) : stopcocklaw04_CellWide.C a0 a1 a2 w R :=
  ev_ok cxok (c := cx) Try.func7 (code := stopcocklaw04_CellWide.code) (by kernel_rfl) [.tmp 6] (by kernel_rfl) 61 (by kernel_rfl) (stopcocklaw04_CellWide.sk R) (args := [(Value.int .u8 a0), (Value.int .u8 a1), (Value.int .i64 a2)]) (Nat.le_of_ble_eq_true rfl) (by kernel_rfl) (o := stopcocklaw04_CellWide.owed R) (by kernel_rfl) (stopcocklaw04_CellWide.pays R) h

/-! ### stopcock/stopcocklaw04.CellRows: function 8 -/
def stopcocklaw04_CellRows.main (a0 : Int) (a1p : Option Addr) (a1n : Nat) (a1c : Nat) (a2p : Option Addr) (a2n : Nat) (a2c : Nat) (w : World) (R : Ending → World → Prop) : Prop :=
  callP Try.prog 15 #[(Value.int .i64 a0), (Value.slice a1p a1n a1c)] w (fun v1 w1 =>
    dT v1 fun vs1 =>
    optP (vs1[0]?) fun v2 =>
    dS v2 fun p1 n1 c1 =>
    optP (vs1[1]?) fun v3 =>
    dI .i64 v3 fun x1 =>
    callP Try.prog 16 #[(Value.int .i64 a0), (Value.slice a1p a1n a1c)] w1 (fun v4 w3 =>
      dT v4 fun vs2 =>
      optP (vs2[0]?) fun v5 =>
      dS v5 fun p2 n2 c2 =>
      optP (vs2[1]?) fun v6 =>
      dI .i64 v6 fun x2 =>
      callP Try.prog 17 #[(Value.slice a2p a2n a2c), (Value.int .i64 a0)] w3 (fun v7 w5 =>
        dT v7 fun vs3 =>
        optP (vs3[0]?) fun v8 =>
        dS v8 fun p3 n3 c3 =>
        optP (vs3[1]?) fun v9 =>
        dI .i64 v9 fun x3 =>
        callP Try.prog 18 #[(Value.slice a2p a2n a2c), (Value.int .i64 a0)] w5 (fun v10 w7 =>
          dT v10 fun vs4 =>
          optP (vs4[0]?) fun v11 =>
          dS v11 fun p4 n4 c4 =>
          optP (vs4[1]?) fun v12 =>
          dI .i64 v12 fun x4 =>
          callP Try.prog 12 #[] w7 (fun v13 w9 =>
            dB v13 fun b1 =>
            cond b1 (
              cond (x1 == x2) (
                ∃ (ns1 : List Int), ns1.length = n1 ∧ CellsO w9 p1 (ns1.map (Value.int .u8)) ∧
                (∃ (ns2 : List Int), ns2.length = n2 ∧ CellsO w9 p2 (ns2.map (Value.int .u8)) ∧
                  (cond ((strOf ns1).toList == (strOf ns2).toList) (
                      cond (x3 == x4) (
                        callP Try.prog 19 #[(Value.slice p3 n3 c3), (Value.slice p4 n4 c4)] w9 (fun v14 w11 =>
                          dB v14 fun b2 =>
                          R (.returned (Value.bool b2)) w11) (fun ch w12 => R (.panicked ch) w12)) (
                        R (.returned (Value.bool false)) w9)) (
                      R (.returned (Value.bool false)) w9)))) (
                R (.returned (Value.bool false)) w9)) (
              R (.returned (Value.bool false)) w9)) (fun ch w10 => R (.panicked ch) w10)) (fun ch w8 => R (.panicked ch) w8)) (fun ch w6 => R (.panicked ch) w6)) (fun ch w4 => R (.panicked ch) w4)) (fun ch w2 => R (.panicked ch) w2)
abbrev stopcocklaw04_CellRows.C (a0 : Int) (a1p : Option Addr) (a1n : Nat) (a1c : Nat) (a2p : Option Addr) (a2n : Nat) (a2c : Nat) (w : World) (R : Ending → World → Prop) : Prop := Calls Try.prog 8 #[(Value.int .i64 a0), (Value.slice a1p a1n a1c), (Value.slice a2p a2n a2c)] w R
noncomputable def stopcocklaw04_CellRows.code : Code := (Try.f8.body).getD .skip
noncomputable def stopcocklaw04_CellRows.sk (R : Ending → World → Prop) : Sk := .leaf
def stopcocklaw04_CellRows.owed (R : Ending → World → Prop) : Prop :=
  True
theorem stopcocklaw04_CellRows.pays (R : Ending → World → Prop) : stopcocklaw04_CellRows.owed R := trivial
set_option maxRecDepth 100000 in
theorem stopcocklaw04_CellRows.ok {a0 : Int} {a1p : Option Addr} {a1n : Nat} {a1c : Nat} {a2p : Option Addr} {a2n : Nat} {a2c : Nat} {w : World} {R : Ending → World → Prop} (h : stopcocklaw04_CellRows.main a0 a1p a1n a1c a2p a2n a2c w R) : stopcocklaw04_CellRows.C a0 a1p a1n a1c a2p a2n a2c w R :=
  ev_ok cxok (c := cx) Try.func8 (code := stopcocklaw04_CellRows.code) (by kernel_rfl) [.tmp 6] (by kernel_rfl) 62 (by kernel_rfl) (stopcocklaw04_CellRows.sk R) (args := [(Value.int .i64 a0), (Value.slice a1p a1n a1c), (Value.slice a2p a2n a2c)]) (Nat.le_of_ble_eq_true rfl) (by kernel_rfl) (o := stopcocklaw04_CellRows.owed R) (by kernel_rfl) (stopcocklaw04_CellRows.pays R) h

/-! ### stopcock/cell.Row: function 15 -/
def cell_Row.b1 (t0 : Int) (t4p : Option Addr) (t4n : Nat) (t4c : Nat) (t11p : Option Addr) (t11n : Nat) (t11c : Nat) (t12 : Int) (t13 : Int) (w : World) (R : Ending → World → Prop) (C1 : Int → Option Addr → Nat → Nat → Option Addr → Nat → Nat → Int → Int → World → Prop) : Prop :=
  cond (decide (t13 < t12)) (
    chk (decide (0 ≤ t13)) (
      chk (decide (t13 < ((t11n : Nat) : Int))) (
        optP t11p fun a1 =>
        ∃ (x1 : Int), w.cell? (a1.add (t13.toNat * 1)) = some (Value.int .i64 x1) ∧
        (callP Try.prog 21 #[(Value.slice t4p t4n t4c), (Value.int .i64 t0), (Value.int .i64 x1)] w (fun v2 w3 =>
            dT v2 fun vs1 =>
            optP (vs1[0]?) fun v3 =>
            dS v3 fun p1 n1 c1 =>
            optP (vs1[1]?) fun v4 =>
            dI .i64 v4 fun x2 =>
            cond (x2 != 0) (
              R (.returned (Value.tuple #[(Value.slice none 0 0), (Value.int .i64 x2)])) w3) (
              C1 t0 p1 n1 c1 t11p t11n t11c t12 (IntKind.i64.wrap (t13 + 1)) w3)) (fun ch w4 => R (.panicked ch) w4))))) (
    R (.returned (Value.tuple #[(Value.slice t4p t4n t4c), (Value.int .i64 0)])) w)
def cell_Row.l1 (t0 : Int) (t4p : Option Addr) (t4n : Nat) (t4c : Nat) (t11p : Option Addr) (t11n : Nat) (t11c : Nat) (t12 : Int) (t13 : Int) (w : World) (R : Ending → World → Prop) : Prop :=
  ∃ (I : Int → Option Addr → Nat → Nat → Option Addr → Nat → Nat → Int → Int → World → Prop) (m : Int → Option Addr → Nat → Nat → Option Addr → Nat → Nat → Int → Int → World → Nat), I t0 t4p t4n t4c t11p t11n t11c t12 t13 w ∧
  ∀ (t0 : Int) (t4p : Option Addr) (t4n : Nat) (t4c : Nat) (t11p : Option Addr) (t11n : Nat) (t11c : Nat) (t12 : Int) (t13 : Int) (w : World), I t0 t4p t4n t4c t11p t11n t11c t12 t13 w →
  cell_Row.b1 t0 t4p t4n t4c t11p t11n t11c t12 t13 w R (fun t0' t4p' t4n' t4c' t11p' t11n' t11c' t12' t13' w' => I t0' t4p' t4n' t4c' t11p' t11n' t11c' t12' t13' w' ∧ m t0' t4p' t4n' t4c' t11p' t11n' t11c' t12' t13' w' < m t0 t4p t4n t4c t11p t11n t11c t12 t13 w)
def cell_Row.main (a0 : Int) (a1p : Option Addr) (a1n : Nat) (a1c : Nat) (w : World) (R : Ending → World → Prop) : Prop :=
  callP Try.prog 20 #[(Value.int .i64 a0)] w (fun v1 w1 =>
    dB v1 fun b1 =>
    cond (!b1) (
      R (.returned (Value.tuple #[(Value.slice none 0 0), (Value.int .i64 1)])) w1) (
      cell_Row.l1 a0 none 0 0 a1p a1n a1c ((a1n : Nat) : Int) 0 w1 R)) (fun ch w2 => R (.panicked ch) w2)
abbrev cell_Row.C (a0 : Int) (a1p : Option Addr) (a1n : Nat) (a1c : Nat) (w : World) (R : Ending → World → Prop) : Prop := Calls Try.prog 15 #[(Value.int .i64 a0), (Value.slice a1p a1n a1c)] w R
noncomputable def cell_Row.code : Code := (Try.f15.body).getD .skip
noncomputable def cell_Row.sk (R : Ending → World → Prop) : Sk := (.seq .leaf (.seq .leaf (.seq (.seq .leaf (.block (.loop [(0, .int .i64), (4, .slice), (11, .slice), (12, .int .i64), (13, .int .i64)] (fun (t0 : Int) (t4p : Option Addr) (t4n : Nat) (t4c : Nat) (t11p : Option Addr) (t11n : Nat) (t11c : Nat) (t12 : Int) (t13 : Int) (w : World) => cell_Row.l1 t0 t4p t4n t4c t11p t11n t11c t12 t13 w R) (fun (C1 : Int → Option Addr → Nat → Nat → Option Addr → Nat → Nat → Int → Int → World → Prop) => .leaf)))) .leaf)))
def cell_Row.owed (R : Ending → World → Prop) : Prop :=
  (∀ (t0 : Int) (t4p : Option Addr) (t4n : Nat) (t4c : Nat) (t11p : Option Addr) (t11n : Nat) (t11c : Nat) (t12 : Int) (t13 : Int) (w : World), cell_Row.l1 t0 t4p t4n t4c t11p t11n t11c t12 t13 w R → cell_Row.l1 t0 t4p t4n t4c t11p t11n t11c t12 t13 w R) ∧ (∀ (C1 : Int → Option Addr → Nat → Nat → Option Addr → Nat → Nat → Int → Int → World → Prop), True) ∧ True
theorem cell_Row.pays (R : Ending → World → Prop) : cell_Row.owed R := ⟨(fun _ _ _ _ _ _ _ _ _ _ h => h), (fun _ => trivial), trivial⟩
set_option maxRecDepth 100000 in
theorem cell_Row.ok {a0 : Int} {a1p : Option Addr} {a1n : Nat} {a1c : Nat} {w : World} {R : Ending → World → Prop} (h : cell_Row.main a0 a1p a1n a1c w R) : cell_Row.C a0 a1p a1n a1c w R :=
  ev_ok cxok (c := cx) Try.func15 (code := cell_Row.code) (by kernel_rfl) [.tmp 4, .tmp 5] (by kernel_rfl) 29 (by kernel_rfl) (cell_Row.sk R) (args := [(Value.int .i64 a0), (Value.slice a1p a1n a1c)]) (Nat.le_of_ble_eq_true rfl) (by kernel_rfl) (o := cell_Row.owed R) (by kernel_rfl) (cell_Row.pays R) h

/-! ### stopcock/stopcockref04.Row: function 16 -/
def stopcockref04_Row.b1 (t0 : Int) (t1p : Option Addr) (t1n : Nat) (t1c : Nat) (t6p : Option Addr) (t6n : Nat) (t6c : Nat) (t7 : Int) (w : World) (R : Ending → World → Prop) (C1 : Int → Option Addr → Nat → Nat → Option Addr → Nat → Nat → Int → World → Prop) : Prop :=
  cond (decide (t7 < ((t1n : Nat) : Int))) (
    chk (decide (0 ≤ t7)) (
      chk (decide (t7 < ((t1n : Nat) : Int))) (
        optP t1p fun a1 =>
        ∃ (x1 : Int), w.cell? (a1.add (t7.toNat * 1)) = some (Value.int .i64 x1) ∧
        (callP Try.prog 11 #[(Value.slice none 0 0), (Value.int .i64 t0), (Value.int .i64 x1)] w (fun v1 w2 =>
            dT v1 fun vs1 =>
            optP (vs1[0]?) fun v2 =>
            dS v2 fun p1 n1 c1 =>
            optP (vs1[1]?) fun v3 =>
            dI .i64 v3 fun x2 =>
            cond (x2 != 0) (
              R (.returned (Value.tuple #[(Value.slice none 0 0), (Value.int .i64 x2)])) w2) (
              appP w2 t6p t6n t6c n1 (CellsO w2 p1) 5 1 1 #[(Value.int .u8 0)] fun p2 c2 w4 =>
              C1 t0 t1p t1n t1c p2 (t6n + n1) c2 (IntKind.i64.wrap (t7 + 1)) w4)) (fun ch w3 => R (.panicked ch) w3))))) (
    R (.returned (Value.tuple #[(Value.slice t6p t6n t6c), (Value.int .i64 0)])) w)
def stopcockref04_Row.l1 (t0 : Int) (t1p : Option Addr) (t1n : Nat) (t1c : Nat) (t6p : Option Addr) (t6n : Nat) (t6c : Nat) (t7 : Int) (w : World) (R : Ending → World → Prop) : Prop :=
  ∃ (I : Int → Option Addr → Nat → Nat → Option Addr → Nat → Nat → Int → World → Prop) (m : Int → Option Addr → Nat → Nat → Option Addr → Nat → Nat → Int → World → Nat), I t0 t1p t1n t1c t6p t6n t6c t7 w ∧
  ∀ (t0 : Int) (t1p : Option Addr) (t1n : Nat) (t1c : Nat) (t6p : Option Addr) (t6n : Nat) (t6c : Nat) (t7 : Int) (w : World), I t0 t1p t1n t1c t6p t6n t6c t7 w →
  stopcockref04_Row.b1 t0 t1p t1n t1c t6p t6n t6c t7 w R (fun t0' t1p' t1n' t1c' t6p' t6n' t6c' t7' w' => I t0' t1p' t1n' t1c' t6p' t6n' t6c' t7' w' ∧ m t0' t1p' t1n' t1c' t6p' t6n' t6c' t7' w' < m t0 t1p t1n t1c t6p t6n t6c t7 w)
def stopcockref04_Row.main (a0 : Int) (a1p : Option Addr) (a1n : Nat) (a1c : Nat) (w : World) (R : Ending → World → Prop) : Prop :=
  cond (decide (a0 < 1)) (
    R (.returned (Value.tuple #[(Value.slice none 0 0), (Value.int .i64 1)])) w) (
    cond (decide (a0 > 4)) (
      R (.returned (Value.tuple #[(Value.slice none 0 0), (Value.int .i64 1)])) w) (
      newP w #[] 5 fun b1 w1 =>
      stopcockref04_Row.l1 a0 a1p a1n a1c (some ⟨b1, 0, none⟩) 0 0 0 w1 R))
abbrev stopcockref04_Row.C (a0 : Int) (a1p : Option Addr) (a1n : Nat) (a1c : Nat) (w : World) (R : Ending → World → Prop) : Prop := Calls Try.prog 16 #[(Value.int .i64 a0), (Value.slice a1p a1n a1c)] w R
noncomputable def stopcockref04_Row.code : Code := (Try.f16.body).getD .skip
noncomputable def stopcockref04_Row.sk (R : Ending → World → Prop) : Sk := (.seq .leaf (.seq .leaf (.seq .leaf (.seq (.seq .leaf (.block (.loop [(0, .int .i64), (1, .slice), (6, .slice), (7, .int .i64)] (fun (t0 : Int) (t1p : Option Addr) (t1n : Nat) (t1c : Nat) (t6p : Option Addr) (t6n : Nat) (t6c : Nat) (t7 : Int) (w : World) => stopcockref04_Row.l1 t0 t1p t1n t1c t6p t6n t6c t7 w R) (fun (C1 : Int → Option Addr → Nat → Nat → Option Addr → Nat → Nat → Int → World → Prop) => .leaf)))) .leaf))))
def stopcockref04_Row.owed (R : Ending → World → Prop) : Prop :=
  (∀ (t0 : Int) (t1p : Option Addr) (t1n : Nat) (t1c : Nat) (t6p : Option Addr) (t6n : Nat) (t6c : Nat) (t7 : Int) (w : World), stopcockref04_Row.l1 t0 t1p t1n t1c t6p t6n t6c t7 w R → stopcockref04_Row.l1 t0 t1p t1n t1c t6p t6n t6c t7 w R) ∧ (∀ (C1 : Int → Option Addr → Nat → Nat → Option Addr → Nat → Nat → Int → World → Prop), True) ∧ True
theorem stopcockref04_Row.pays (R : Ending → World → Prop) : stopcockref04_Row.owed R := ⟨(fun _ _ _ _ _ _ _ _ _ h => h), (fun _ => trivial), trivial⟩
set_option maxRecDepth 100000 in
theorem stopcockref04_Row.ok {a0 : Int} {a1p : Option Addr} {a1n : Nat} {a1c : Nat} {w : World} {R : Ending → World → Prop} (h : stopcockref04_Row.main a0 a1p a1n a1c w R) : stopcockref04_Row.C a0 a1p a1n a1c w R :=
  ev_ok cxok (c := cx) Try.func16 (code := stopcockref04_Row.code) (by kernel_rfl) [.tmp 4, .tmp 5] (by kernel_rfl) 39 (by kernel_rfl) (stopcockref04_Row.sk R) (args := [(Value.int .i64 a0), (Value.slice a1p a1n a1c)]) (Nat.le_of_ble_eq_true rfl) (by kernel_rfl) (o := stopcockref04_Row.owed R) (by kernel_rfl) (stopcockref04_Row.pays R) h

/-! ### stopcock/cell.Unrow: function 17 -/
def cell_Unrow.b1 (t0p : Option Addr) (t0n : Nat) (t0c : Nat) (t1 : Int) (t6p : Option Addr) (t6n : Nat) (t6c : Nat) (w : World) (R : Ending → World → Prop) (C1 : Option Addr → Nat → Nat → Int → Option Addr → Nat → Nat → World → Prop) : Prop :=
  cond (decide (((t0n : Nat) : Int) > 0)) (
    chk (decide (0 ≤ t1)) (
      chk (decide (t1 ≤ ((t0c : Nat) : Int))) (
        callP Try.prog 24 #[(Value.slice (slA t0p t0c 0 1) t1.toNat t0c)] w (fun v2 w3 =>
          dI .i64 v2 fun x1 =>
          newP w3 #[(Value.int .i64 x1)] 3 fun b2 w5 =>
          appP w5 t6p t6n t6c 1 (CellsO w5 (some ⟨b2, 0, none⟩)) 3 1 8 #[(Value.int .i64 0)] fun p1 c1 w6 =>
          chk (decide (0 ≤ t1)) (
            chk (decide (t1 ≤ ((t0n : Nat) : Int))) (
              C1 (slA t0p t0c t1.toNat 1) (t0n - t1.toNat) (t0c - t1.toNat) t1 p1 (t6n + 1) c1 w6))) (fun ch w4 => R (.panicked ch) w4)))) (
    R (.returned (Value.tuple #[(Value.slice t6p t6n t6c), (Value.int .i64 0)])) w)
def cell_Unrow.l1 (t0p : Option Addr) (t0n : Nat) (t0c : Nat) (t1 : Int) (t6p : Option Addr) (t6n : Nat) (t6c : Nat) (w : World) (R : Ending → World → Prop) : Prop :=
  ∃ (I : Option Addr → Nat → Nat → Int → Option Addr → Nat → Nat → World → Prop) (m : Option Addr → Nat → Nat → Int → Option Addr → Nat → Nat → World → Nat), I t0p t0n t0c t1 t6p t6n t6c w ∧
  ∀ (t0p : Option Addr) (t0n : Nat) (t0c : Nat) (t1 : Int) (t6p : Option Addr) (t6n : Nat) (t6c : Nat) (w : World), I t0p t0n t0c t1 t6p t6n t6c w →
  cell_Unrow.b1 t0p t0n t0c t1 t6p t6n t6c w R (fun t0p' t0n' t0c' t1' t6p' t6n' t6c' w' => I t0p' t0n' t0c' t1' t6p' t6n' t6c' w' ∧ m t0p' t0n' t0c' t1' t6p' t6n' t6c' w' < m t0p t0n t0c t1 t6p t6n t6c w)
def cell_Unrow.main (a0p : Option Addr) (a0n : Nat) (a0c : Nat) (a1 : Int) (w : World) (R : Ending → World → Prop) : Prop :=
  callP Try.prog 20 #[(Value.int .i64 a1)] w (fun v1 w1 =>
    dB v1 fun b1 =>
    cond (!b1) (
      R (.returned (Value.tuple #[(Value.slice none 0 0), (Value.int .i64 1)])) w1) (
      chk (decide (a1 ≠ 0)) (
        cond ((Int.tmod ((a0n : Nat) : Int) a1) != 0) (
          R (.returned (Value.tuple #[(Value.slice none 0 0), (Value.int .i64 6)])) w1) (
          cell_Unrow.l1 a0p a0n a0c a1 none 0 0 w1 R)))) (fun ch w2 => R (.panicked ch) w2)
abbrev cell_Unrow.C (a0p : Option Addr) (a0n : Nat) (a0c : Nat) (a1 : Int) (w : World) (R : Ending → World → Prop) : Prop := Calls Try.prog 17 #[(Value.slice a0p a0n a0c), (Value.int .i64 a1)] w R
noncomputable def cell_Unrow.code : Code := (Try.f17.body).getD .skip
noncomputable def cell_Unrow.sk (R : Ending → World → Prop) : Sk := (.seq .leaf (.seq .leaf (.seq .leaf (.seq (.block (.loop [(0, .slice), (1, .int .i64), (6, .slice)] (fun (t0p : Option Addr) (t0n : Nat) (t0c : Nat) (t1 : Int) (t6p : Option Addr) (t6n : Nat) (t6c : Nat) (w : World) => cell_Unrow.l1 t0p t0n t0c t1 t6p t6n t6c w R) (fun (C1 : Option Addr → Nat → Nat → Int → Option Addr → Nat → Nat → World → Prop) => .leaf))) .leaf))))
def cell_Unrow.owed (R : Ending → World → Prop) : Prop :=
  (∀ (t0p : Option Addr) (t0n : Nat) (t0c : Nat) (t1 : Int) (t6p : Option Addr) (t6n : Nat) (t6c : Nat) (w : World), cell_Unrow.l1 t0p t0n t0c t1 t6p t6n t6c w R → cell_Unrow.l1 t0p t0n t0c t1 t6p t6n t6c w R) ∧ (∀ (C1 : Option Addr → Nat → Nat → Int → Option Addr → Nat → Nat → World → Prop), True) ∧ True
theorem cell_Unrow.pays (R : Ending → World → Prop) : cell_Unrow.owed R := ⟨(fun _ _ _ _ _ _ _ _ h => h), (fun _ => trivial), trivial⟩
set_option maxRecDepth 100000 in
theorem cell_Unrow.ok {a0p : Option Addr} {a0n : Nat} {a0c : Nat} {a1 : Int} {w : World} {R : Ending → World → Prop} (h : cell_Unrow.main a0p a0n a0c a1 w R) : cell_Unrow.C a0p a0n a0c a1 w R :=
  ev_ok cxok (c := cx) Try.func17 (code := cell_Unrow.code) (by kernel_rfl) [.tmp 4, .tmp 5] (by kernel_rfl) 31 (by kernel_rfl) (cell_Unrow.sk R) (args := [(Value.slice a0p a0n a0c), (Value.int .i64 a1)]) (Nat.le_of_ble_eq_true rfl) (by kernel_rfl) (o := cell_Unrow.owed R) (by kernel_rfl) (cell_Unrow.pays R) h

/-! ### stopcock/stopcockref04.Unrow: function 18 -/
def stopcockref04_Unrow.b1 (t0p : Option Addr) (t0n : Nat) (t0c : Nat) (t1 : Int) (t6p : Option Addr) (t6n : Nat) (t6c : Nat) (t7 : Int) (w : World) (R : Ending → World → Prop) (C1 : Option Addr → Nat → Nat → Int → Option Addr → Nat → Nat → Int → World → Prop) : Prop :=
  cond (decide (t7 < ((t0n : Nat) : Int))) (
    callP Try.prog 14 #[(Value.slice t0p t0n t0c), (Value.int .i64 t7), (Value.int .i64 t1)] w (fun v1 w2 =>
      dT v1 fun vs1 =>
      optP (vs1[0]?) fun v2 =>
      dI .i64 v2 fun x1 =>
      optP (vs1[1]?) fun v3 =>
      dI .i64 v3 fun x2 =>
      newP w2 #[(Value.int .i64 x1)] 3 fun b2 w4 =>
      appP w4 t6p t6n t6c 1 (CellsO w4 (some ⟨b2, 0, none⟩)) 3 1 8 #[(Value.int .i64 0)] fun p1 c1 w5 =>
      C1 t0p t0n t0c t1 p1 (t6n + 1) c1 (IntKind.i64.wrap (t7 + t1)) w5) (fun ch w3 => R (.panicked ch) w3)) (
    R (.returned (Value.tuple #[(Value.slice t6p t6n t6c), (Value.int .i64 0)])) w)
def stopcockref04_Unrow.l1 (t0p : Option Addr) (t0n : Nat) (t0c : Nat) (t1 : Int) (t6p : Option Addr) (t6n : Nat) (t6c : Nat) (t7 : Int) (w : World) (R : Ending → World → Prop) : Prop :=
  ∃ (I : Option Addr → Nat → Nat → Int → Option Addr → Nat → Nat → Int → World → Prop) (m : Option Addr → Nat → Nat → Int → Option Addr → Nat → Nat → Int → World → Nat), I t0p t0n t0c t1 t6p t6n t6c t7 w ∧
  ∀ (t0p : Option Addr) (t0n : Nat) (t0c : Nat) (t1 : Int) (t6p : Option Addr) (t6n : Nat) (t6c : Nat) (t7 : Int) (w : World), I t0p t0n t0c t1 t6p t6n t6c t7 w →
  stopcockref04_Unrow.b1 t0p t0n t0c t1 t6p t6n t6c t7 w R (fun t0p' t0n' t0c' t1' t6p' t6n' t6c' t7' w' => I t0p' t0n' t0c' t1' t6p' t6n' t6c' t7' w' ∧ m t0p' t0n' t0c' t1' t6p' t6n' t6c' t7' w' < m t0p t0n t0c t1 t6p t6n t6c t7 w)
def stopcockref04_Unrow.main (a0p : Option Addr) (a0n : Nat) (a0c : Nat) (a1 : Int) (w : World) (R : Ending → World → Prop) : Prop :=
  cond (decide (a1 < 1)) (
    R (.returned (Value.tuple #[(Value.slice none 0 0), (Value.int .i64 1)])) w) (
    cond (decide (a1 > 4)) (
      R (.returned (Value.tuple #[(Value.slice none 0 0), (Value.int .i64 1)])) w) (
      chk (decide (a1 ≠ 0)) (
        cond ((Int.tmod ((a0n : Nat) : Int) a1) != 0) (
          R (.returned (Value.tuple #[(Value.slice none 0 0), (Value.int .i64 6)])) w) (
          newP w #[] 3 fun b1 w1 =>
          stopcockref04_Unrow.l1 a0p a0n a0c a1 (some ⟨b1, 0, none⟩) 0 0 0 w1 R))))
abbrev stopcockref04_Unrow.C (a0p : Option Addr) (a0n : Nat) (a0c : Nat) (a1 : Int) (w : World) (R : Ending → World → Prop) : Prop := Calls Try.prog 18 #[(Value.slice a0p a0n a0c), (Value.int .i64 a1)] w R
noncomputable def stopcockref04_Unrow.code : Code := (Try.f18.body).getD .skip
noncomputable def stopcockref04_Unrow.sk (R : Ending → World → Prop) : Sk := (.seq .leaf (.seq .leaf (.seq .leaf (.seq .leaf (.seq (.seq .leaf (.block (.loop [(0, .slice), (1, .int .i64), (6, .slice), (7, .int .i64)] (fun (t0p : Option Addr) (t0n : Nat) (t0c : Nat) (t1 : Int) (t6p : Option Addr) (t6n : Nat) (t6c : Nat) (t7 : Int) (w : World) => stopcockref04_Unrow.l1 t0p t0n t0c t1 t6p t6n t6c t7 w R) (fun (C1 : Option Addr → Nat → Nat → Int → Option Addr → Nat → Nat → Int → World → Prop) => .leaf)))) .leaf)))))
def stopcockref04_Unrow.owed (R : Ending → World → Prop) : Prop :=
  (∀ (t0p : Option Addr) (t0n : Nat) (t0c : Nat) (t1 : Int) (t6p : Option Addr) (t6n : Nat) (t6c : Nat) (t7 : Int) (w : World), stopcockref04_Unrow.l1 t0p t0n t0c t1 t6p t6n t6c t7 w R → stopcockref04_Unrow.l1 t0p t0n t0c t1 t6p t6n t6c t7 w R) ∧ (∀ (C1 : Option Addr → Nat → Nat → Int → Option Addr → Nat → Nat → Int → World → Prop), True) ∧ True
theorem stopcockref04_Unrow.pays (R : Ending → World → Prop) : stopcockref04_Unrow.owed R := ⟨(fun _ _ _ _ _ _ _ _ _ h => h), (fun _ => trivial), trivial⟩
set_option maxRecDepth 100000 in
theorem stopcockref04_Unrow.ok {a0p : Option Addr} {a0n : Nat} {a0c : Nat} {a1 : Int} {w : World} {R : Ending → World → Prop} (h : stopcockref04_Unrow.main a0p a0n a0c a1 w R) : stopcockref04_Unrow.C a0p a0n a0c a1 w R :=
  ev_ok cxok (c := cx) Try.func18 (code := stopcockref04_Unrow.code) (by kernel_rfl) [.tmp 4, .tmp 5] (by kernel_rfl) 41 (by kernel_rfl) (stopcockref04_Unrow.sk R) (args := [(Value.slice a0p a0n a0c), (Value.int .i64 a1)]) (Nat.le_of_ble_eq_true rfl) (by kernel_rfl) (o := stopcockref04_Unrow.owed R) (by kernel_rfl) (stopcockref04_Unrow.pays R) h

/-! ### stopcock/stopcockref01.Ints: function 19 -/
def stopcockref01_Ints.b1 (t0p : Option Addr) (t0n : Nat) (t0c : Nat) (t1p : Option Addr) (t1n : Nat) (t1c : Nat) (t5 : Int) (w : World) (R : Ending → World → Prop) (C1 : Option Addr → Nat → Nat → Option Addr → Nat → Nat → Int → World → Prop) : Prop :=
  cond (decide (t5 < ((t0n : Nat) : Int))) (
    chk (decide (0 ≤ t5)) (
      chk (decide (t5 < ((t0n : Nat) : Int))) (
        optP t0p fun a1 =>
        ∃ (x1 : Int), w.cell? (a1.add (t5.toNat * 1)) = some (Value.int .i64 x1) ∧
        (chk (decide (0 ≤ t5)) (
            chk (decide (t5 < ((t1n : Nat) : Int))) (
              optP t1p fun a2 =>
              ∃ (x2 : Int), w.cell? (a2.add (t5.toNat * 1)) = some (Value.int .i64 x2) ∧
              (∀ k1 : Nat,
                cond (x1 != x2) (
                  R (.returned (Value.bool false)) (w.drewN k1)) (
                  C1 t0p t0n t0c t1p t1n t1c (IntKind.i64.wrap (t5 + 1)) (w.drewN k1))))))))) (
    R (.returned (Value.bool true)) w)
def stopcockref01_Ints.l1 (t0p : Option Addr) (t0n : Nat) (t0c : Nat) (t1p : Option Addr) (t1n : Nat) (t1c : Nat) (t5 : Int) (w : World) (R : Ending → World → Prop) : Prop :=
  ∃ (I : Option Addr → Nat → Nat → Option Addr → Nat → Nat → Int → World → Prop) (m : Option Addr → Nat → Nat → Option Addr → Nat → Nat → Int → World → Nat), I t0p t0n t0c t1p t1n t1c t5 w ∧
  ∀ (t0p : Option Addr) (t0n : Nat) (t0c : Nat) (t1p : Option Addr) (t1n : Nat) (t1c : Nat) (t5 : Int) (w : World), I t0p t0n t0c t1p t1n t1c t5 w →
  stopcockref01_Ints.b1 t0p t0n t0c t1p t1n t1c t5 w R (fun t0p' t0n' t0c' t1p' t1n' t1c' t5' w' => I t0p' t0n' t0c' t1p' t1n' t1c' t5' w' ∧ m t0p' t0n' t0c' t1p' t1n' t1c' t5' w' < m t0p t0n t0c t1p t1n t1c t5 w)
def stopcockref01_Ints.main (a0p : Option Addr) (a0n : Nat) (a0c : Nat) (a1p : Option Addr) (a1n : Nat) (a1c : Nat) (w : World) (R : Ending → World → Prop) : Prop :=
  cond (((a0n : Nat) : Int) != ((a1n : Nat) : Int)) (
    R (.returned (Value.bool false)) w) (
    stopcockref01_Ints.l1 a0p a0n a0c a1p a1n a1c 0 w R)
abbrev stopcockref01_Ints.C (a0p : Option Addr) (a0n : Nat) (a0c : Nat) (a1p : Option Addr) (a1n : Nat) (a1c : Nat) (w : World) (R : Ending → World → Prop) : Prop := Calls Try.prog 19 #[(Value.slice a0p a0n a0c), (Value.slice a1p a1n a1c)] w R
noncomputable def stopcockref01_Ints.code : Code := (Try.f19.body).getD .skip
noncomputable def stopcockref01_Ints.sk (R : Ending → World → Prop) : Sk := (.seq .leaf (.seq .leaf (.seq (.seq .leaf (.block (.loop [(0, .slice), (1, .slice), (5, .int .i64)] (fun (t0p : Option Addr) (t0n : Nat) (t0c : Nat) (t1p : Option Addr) (t1n : Nat) (t1c : Nat) (t5 : Int) (w : World) => stopcockref01_Ints.l1 t0p t0n t0c t1p t1n t1c t5 w R) (fun (C1 : Option Addr → Nat → Nat → Option Addr → Nat → Nat → Int → World → Prop) => .leaf)))) .leaf)))
def stopcockref01_Ints.owed (R : Ending → World → Prop) : Prop :=
  (∀ (t0p : Option Addr) (t0n : Nat) (t0c : Nat) (t1p : Option Addr) (t1n : Nat) (t1c : Nat) (t5 : Int) (w : World), stopcockref01_Ints.l1 t0p t0n t0c t1p t1n t1c t5 w R → stopcockref01_Ints.l1 t0p t0n t0c t1p t1n t1c t5 w R) ∧ (∀ (C1 : Option Addr → Nat → Nat → Option Addr → Nat → Nat → Int → World → Prop), True) ∧ True
theorem stopcockref01_Ints.pays (R : Ending → World → Prop) : stopcockref01_Ints.owed R := ⟨(fun _ _ _ _ _ _ _ _ h => h), (fun _ => trivial), trivial⟩
set_option maxRecDepth 100000 in
theorem stopcockref01_Ints.ok {a0p : Option Addr} {a0n : Nat} {a0c : Nat} {a1p : Option Addr} {a1n : Nat} {a1c : Nat} {w : World} {R : Ending → World → Prop} (h : stopcockref01_Ints.main a0p a0n a0c a1p a1n a1c w R) : stopcockref01_Ints.C a0p a0n a0c a1p a1n a1c w R :=
  ev_ok cxok (c := cx) Try.func19 (code := stopcockref01_Ints.code) (by kernel_rfl) [.tmp 4] (by kernel_rfl) 26 (by kernel_rfl) (stopcockref01_Ints.sk R) (args := [(Value.slice a0p a0n a0c), (Value.slice a1p a1n a1c)]) (Nat.le_of_ble_eq_true rfl) (by kernel_rfl) (o := stopcockref01_Ints.owed R) (by kernel_rfl) (stopcockref01_Ints.pays R) h

/-! ### stopcock/stopcocklaw04.CellTurns: function 9 -/
def stopcocklaw04_CellTurns.k1 (t2p : Option Addr) (t2n : Nat) (t2c : Nat) (t7 : Int) (w : World) (R : Ending → World → Prop) : Prop :=
  callP Try.prog 17 #[(Value.slice t2p t2n t2c), (Value.int .i64 t7)] w (fun v8 w7 =>
    dT v8 fun vs3 =>
    optP (vs3[0]?) fun v9 =>
    dS v9 fun p3 n3 c3 =>
    optP (vs3[1]?) fun v10 =>
    dI .i64 v10 fun x3 =>
    cond (x3 != 0) (
      callP Try.prog 12 #[] w7 (fun v11 w9 =>
        dB v11 fun b2 =>
        cond b2 (
          cond (x3 == 6) (
            chk (decide (t7 ≠ 0)) (
              R (.returned (Value.bool ((Int.tmod ((t2n : Nat) : Int) t7) != 0))) w9)) (
            R (.returned (Value.bool false)) w9)) (
          R (.returned (Value.bool false)) w9)) (fun ch w10 => R (.panicked ch) w10)) (
      callP Try.prog 15 #[(Value.int .i64 t7), (Value.slice p3 n3 c3)] w7 (fun v12 w11 =>
        dT v12 fun vs4 =>
        optP (vs4[0]?) fun v13 =>
        dS v13 fun p4 n4 c4 =>
        optP (vs4[1]?) fun v14 =>
        dI .i64 v14 fun x4 =>
        callP Try.prog 12 #[] w11 (fun v15 w13 =>
          dB v15 fun b3 =>
          cond b3 (
            cond (x4 == 0) (
              ∃ (ns1 : List Int), ns1.length = n4 ∧ CellsO w13 p4 (ns1.map (Value.int .u8)) ∧
              (∃ (ns2 : List Int), ns2.length = t2n ∧ CellsO w13 t2p (ns2.map (Value.int .u8)) ∧
                (R (.returned (Value.bool ((strOf ns1).toList == (strOf ns2).toList))) w13))) (
              R (.returned (Value.bool false)) w13)) (
            R (.returned (Value.bool false)) w13)) (fun ch w14 => R (.panicked ch) w14)) (fun ch w12 => R (.panicked ch) w12))) (fun ch w8 => R (.panicked ch) w8)
def stopcocklaw04_CellTurns.main (a0 : Int) (a1p : Option Addr) (a1n : Nat) (a1c : Nat) (a2p : Option Addr) (a2n : Nat) (a2c : Nat) (w : World) (R : Ending → World → Prop) : Prop :=
  callP Try.prog 15 #[(Value.int .i64 (IntKind.i64.wrap (1 + (IntKind.i64.wrap (Int.tmod a0 4))))), (Value.slice a1p a1n a1c)] w (fun v1 w1 =>
    dT v1 fun vs1 =>
    optP (vs1[0]?) fun v2 =>
    dS v2 fun p1 n1 c1 =>
    optP (vs1[1]?) fun v3 =>
    dI .i64 v3 fun x1 =>
    cond (x1 == 0) (
      callP Try.prog 17 #[(Value.slice p1 n1 c1), (Value.int .i64 (IntKind.i64.wrap (1 + (IntKind.i64.wrap (Int.tmod a0 4)))))] w1 (fun v4 w3 =>
        dT v4 fun vs2 =>
        optP (vs2[0]?) fun v5 =>
        dS v5 fun p2 n2 c2 =>
        optP (vs2[1]?) fun v6 =>
        dI .i64 v6 fun x2 =>
        cond (x2 != 0) (
          R (.returned (Value.bool false)) w3) (
          callP Try.prog 19 #[(Value.slice p2 n2 c2), (Value.slice a1p a1n a1c)] w3 (fun v7 w5 =>
            dB v7 fun b1 =>
            cond (!b1) (
              R (.returned (Value.bool false)) w5) (
              cond (((n1 : Nat) : Int) != (IntKind.i64.wrap ((IntKind.i64.wrap (1 + (IntKind.i64.wrap (Int.tmod a0 4)))) * ((a1n : Nat) : Int)))) (
                R (.returned (Value.bool false)) w5) (
                stopcocklaw04_CellTurns.k1 a2p a2n a2c (IntKind.i64.wrap (1 + (IntKind.i64.wrap (Int.tmod a0 4)))) w5 R))) (fun ch w6 => R (.panicked ch) w6))) (fun ch w4 => R (.panicked ch) w4)) (
      stopcocklaw04_CellTurns.k1 a2p a2n a2c (IntKind.i64.wrap (1 + (IntKind.i64.wrap (Int.tmod a0 4)))) w1 R)) (fun ch w2 => R (.panicked ch) w2)
abbrev stopcocklaw04_CellTurns.C (a0 : Int) (a1p : Option Addr) (a1n : Nat) (a1c : Nat) (a2p : Option Addr) (a2n : Nat) (a2c : Nat) (w : World) (R : Ending → World → Prop) : Prop := Calls Try.prog 9 #[(Value.int .u8 a0), (Value.slice a1p a1n a1c), (Value.slice a2p a2n a2c)] w R
noncomputable def stopcocklaw04_CellTurns.code : Code := (Try.f9.body).getD .skip
noncomputable def stopcocklaw04_CellTurns.sk (R : Ending → World → Prop) : Sk := (.seq .leaf (.seq .leaf (.seq .leaf (.cut [(2, .slice), (7, .int .i64)] (fun (t2p : Option Addr) (t2n : Nat) (t2c : Nat) (t7 : Int) (w : World) => stopcocklaw04_CellTurns.k1 t2p t2n t2c t7 w R) .leaf .leaf))))
def stopcocklaw04_CellTurns.owed (R : Ending → World → Prop) : Prop :=
  (∀ (t2p : Option Addr) (t2n : Nat) (t2c : Nat) (t7 : Int) (w : World), stopcocklaw04_CellTurns.k1 t2p t2n t2c t7 w R → stopcocklaw04_CellTurns.k1 t2p t2n t2c t7 w R) ∧ True
theorem stopcocklaw04_CellTurns.pays (R : Ending → World → Prop) : stopcocklaw04_CellTurns.owed R := ⟨(fun _ _ _ _ _ h => h), trivial⟩
set_option maxRecDepth 100000 in
theorem stopcocklaw04_CellTurns.ok {a0 : Int} {a1p : Option Addr} {a1n : Nat} {a1c : Nat} {a2p : Option Addr} {a2n : Nat} {a2c : Nat} {w : World} {R : Ending → World → Prop} (h : stopcocklaw04_CellTurns.main a0 a1p a1n a1c a2p a2n a2c w R) : stopcocklaw04_CellTurns.C a0 a1p a1n a1c a2p a2n a2c w R :=
  ev_ok cxok (c := cx) Try.func9 (code := stopcocklaw04_CellTurns.code) (by kernel_rfl) [.tmp 6] (by kernel_rfl) 89 (by kernel_rfl) (stopcocklaw04_CellTurns.sk R) (args := [(Value.int .u8 a0), (Value.slice a1p a1n a1c), (Value.slice a2p a2n a2c)]) (Nat.le_of_ble_eq_true rfl) (by kernel_rfl) (o := stopcocklaw04_CellTurns.owed R) (by kernel_rfl) (stopcocklaw04_CellTurns.pays R) h

end Go.Proofs.Ytlcnjadfkpkgjaa.G

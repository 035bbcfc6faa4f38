/- Statements of functions, and that their calls do what they say. Printed by wip/tool/dec.py. Conditions: none. -/
import Derived.Test.YtokepljpieboiaaG0
namespace Go.Proofs.Ytokepljpieboiaa.G
open Go.Dec
set_option linter.unusedVariables false

/-! ### stopcock/stopcockref04.limit: function 72 -/
def stopcockref04_limit.b1 (t0 : Int) (t3 : Int) (t4 : Int) (w : World) (R : Ending → World → Prop) (C1 : Int → Int → Int → World → Prop) : Prop :=
  cond (decide (t4 < t0)) (
    C1 t0 (IntKind.i64.wrap (t3 * 256)) (IntKind.i64.wrap (t4 + 1)) w) (
    R (.returned (Value.int .i64 t3)) w)
def stopcockref04_limit.l1 (t0 : Int) (t3 : Int) (t4 : Int) (w : World) (R : Ending → World → Prop) : Prop :=
  ∃ (I : Int → Int → Int → World → Prop) (m : Int → Int → Int → World → Nat), I t0 t3 t4 w ∧
  ∀ (t0 : Int) (t3 : Int) (t4 : Int) (w : World), I t0 t3 t4 w →
  stopcockref04_limit.b1 t0 t3 t4 w R (fun t0' t3' t4' w' => I t0' t3' t4' w' ∧ m t0' t3' t4' w' < m t0 t3 t4 w)
def stopcockref04_limit.main (a0 : Int) (w : World) (R : Ending → World → Prop) : Prop :=
  stopcockref04_limit.l1 a0 1 0 w R
abbrev stopcockref04_limit.C (a0 : Int) (w : World) (R : Ending → World → Prop) : Prop := Calls Try.prog 72 #[(Value.int .i64 a0)] w R
noncomputable def stopcockref04_limit.code : Code := (Try.f72.body).getD .skip
noncomputable def stopcockref04_limit.sk (R : Ending → World → Prop) : Sk := (.seq .leaf (.seq .leaf (.seq (.seq .leaf (.block (.loop [(0, .int .i64), (3, .int .i64), (4, .int .i64)] (fun (t0 : Int) (t3 : Int) (t4 : Int) (w : World) => stopcockref04_limit.l1 t0 t3 t4 w R) (fun (C1 : Int → Int → Int → World → Prop) => .leaf)))) .leaf)))
def stopcockref04_limit.owed (R : Ending → World → Prop) : Prop :=
  (∀ (t0 : Int) (t3 : Int) (t4 : Int) (w : World), stopcockref04_limit.l1 t0 t3 t4 w R → stopcockref04_limit.l1 t0 t3 t4 w R) ∧ (∀ (C1 : Int → Int → Int → World → Prop), True) ∧ True
theorem stopcockref04_limit.pays (R : Ending → World → Prop) : stopcockref04_limit.owed R := ⟨(fun _ _ _ _ h => h), (fun _ => trivial), trivial⟩
set_option maxRecDepth 100000 in
theorem stopcockref04_limit.ok {a0 : Int} {w : World} {R : Ending → World → Prop} (h : stopcockref04_limit.main a0 w R) : stopcockref04_limit.C a0 w R :=
  ev_ok cxok (c := cx) Try.func72 (code := stopcockref04_limit.code) (by kernel_rfl) [.tmp 2] (by kernel_rfl) 13 (by kernel_rfl) (stopcockref04_limit.sk R) (args := [(Value.int .i64 a0)]) (Nat.le_of_ble_eq_true rfl) (by kernel_rfl) (o := stopcockref04_limit.owed R) (by kernel_rfl) (stopcockref04_limit.pays R) h

/-! ### slices.EqualFunc[[][]byte,[][]byte,[]byte,[]byte]: function 15 -/
def slices_EqualFunc_byte_byte_byte_byte_f16.b1 (t1p : Option Addr) (t1n : Nat) (t1c : Nat) (t15p : Option Addr) (t15n : Nat) (t15c : Nat) (t16 : Int) (t17 : Int) (w : World) (R : Ending → World → Prop) (C1 : Option Addr → Nat → Nat → Option Addr → Nat → Nat → Int → Int → World → Prop) : Prop :=
  cond (decide (t17 < t16)) (
    chk (decide (0 ≤ t17)) (
      chk (decide (t17 < ((t15n : Nat) : Int))) (
        optP t15p fun d1 =>
        ∃ (p1 : Option Addr) (n1 : Nat) (c1 : Nat), w.cell? (d1.add (t17.toNat * 1)) = some (Value.slice p1 n1 c1) ∧
        (chk (decide (0 ≤ t17)) (
            chk (decide (t17 < ((t1n : Nat) : Int))) (
              optP t1p fun d2 =>
              ∃ (p2 : Option Addr) (n2 : Nat) (c2 : Nat), w.cell? (d2.add (t17.toNat * 1)) = some (Value.slice p2 n2 c2) ∧
              (callP Try.prog 16 #[(Value.slice p1 n1 c1), (Value.slice p2 n2 c2)] w (fun v1 w1 =>
                  dB v1 fun b1 =>
                  cond (!b1) (
                    R (.returned (Value.bool false)) w1) (
                    C1 t1p t1n t1c t15p t15n t15c t16 (IntKind.i64.wrap (t17 + 1)) w1)) (fun ch w2 => R (.panicked ch) w2)))))))) (
    R (.returned (Value.bool true)) w)
def slices_EqualFunc_byte_byte_byte_byte_f16.l1 (t1p : Option Addr) (t1n : Nat) (t1c : Nat) (t15p : Option Addr) (t15n : Nat) (t15c : Nat) (t16 : Int) (t17 : Int) (w : World) (R : Ending → World → Prop) : Prop :=
  ∃ (I : Option Addr → Nat → Nat → Option Addr → Nat → Nat → Int → Int → World → Prop) (m : Option Addr → Nat → Nat → Option Addr → Nat → Nat → Int → Int → World → Nat), I t1p t1n t1c t15p t15n t15c t16 t17 w ∧
  ∀ (t1p : Option Addr) (t1n : Nat) (t1c : Nat) (t15p : Option Addr) (t15n : Nat) (t15c : Nat) (t16 : Int) (t17 : Int) (w : World), I t1p t1n t1c t15p t15n t15c t16 t17 w →
  slices_EqualFunc_byte_byte_byte_byte_f16.b1 t1p t1n t1c t15p t15n t15c t16 t17 w R (fun t1p' t1n' t1c' t15p' t15n' t15c' t16' t17' w' => I t1p' t1n' t1c' t15p' t15n' t15c' t16' t17' w' ∧ m t1p' t1n' t1c' t15p' t15n' t15c' t16' t17' w' < m t1p t1n t1c t15p t15n t15c t16 t17 w)
def slices_EqualFunc_byte_byte_byte_byte_f16.main (a0p : Option Addr) (a0n : Nat) (a0c : Nat) (a1p : Option Addr) (a1n : Nat) (a1c : Nat) (w : World) (R : Ending → World → Prop) : Prop :=
  cond (((a0n : Nat) : Int) != ((a1n : Nat) : Int)) (
    R (.returned (Value.bool false)) w) (
    slices_EqualFunc_byte_byte_byte_byte_f16.l1 a1p a1n a1c a0p a0n a0c ((a0n : Nat) : Int) 0 w R)
abbrev slices_EqualFunc_byte_byte_byte_byte_f16.C (a0p : Option Addr) (a0n : Nat) (a0c : Nat) (a1p : Option Addr) (a1n : Nat) (a1c : Nat) (w : World) (R : Ending → World → Prop) : Prop := Calls Try.prog 15 #[(Value.slice a0p a0n a0c), (Value.slice a1p a1n a1c), (Value.func (.func 16) #[] #[])] w R
noncomputable def slices_EqualFunc_byte_byte_byte_byte_f16.code : Code := (Try.f15.body).getD .skip
noncomputable def slices_EqualFunc_byte_byte_byte_byte_f16.sk (R : Ending → World → Prop) : Sk := (.seq .leaf (.seq .leaf (.seq (.seq .leaf (.block (.loop [(1, .slice), (2, .fn0 16), (15, .slice), (16, .int .i64), (17, .int .i64)] (fun (t1p : Option Addr) (t1n : Nat) (t1c : Nat) (t15p : Option Addr) (t15n : Nat) (t15c : Nat) (t16 : Int) (t17 : Int) (w : World) => slices_EqualFunc_byte_byte_byte_byte_f16.l1 t1p t1n t1c t15p t15n t15c t16 t17 w R) (fun (C1 : Option Addr → Nat → Nat → Option Addr → Nat → Nat → Int → Int → World → Prop) => .leaf)))) .leaf)))
def slices_EqualFunc_byte_byte_byte_byte_f16.owed (R : Ending → World → Prop) : Prop :=
  (∀ (t1p : Option Addr) (t1n : Nat) (t1c : Nat) (t15p : Option Addr) (t15n : Nat) (t15c : Nat) (t16 : Int) (t17 : Int) (w : World), slices_EqualFunc_byte_byte_byte_byte_f16.l1 t1p t1n t1c t15p t15n t15c t16 t17 w R → slices_EqualFunc_byte_byte_byte_byte_f16.l1 t1p t1n t1c t15p t15n t15c t16 t17 w R) ∧ (∀ (C1 : Option Addr → Nat → Nat → Option Addr → Nat → Nat → Int → Int → World → Prop), True) ∧ True
theorem slices_EqualFunc_byte_byte_byte_byte_f16.pays (R : Ending → World → Prop) : slices_EqualFunc_byte_byte_byte_byte_f16.owed R := ⟨(fun _ _ _ _ _ _ _ _ _ h => h), (fun _ => trivial), trivial⟩
set_option maxRecDepth 100000 in
theorem slices_EqualFunc_byte_byte_byte_byte_f16.ok {a0p : Option Addr} {a0n : Nat} {a0c : Nat} {a1p : Option Addr} {a1n : Nat} {a1c : Nat} {w : World} {R : Ending → World → Prop} (h : slices_EqualFunc_byte_byte_byte_byte_f16.main a0p a0n a0c a1p a1n a1c w R) : slices_EqualFunc_byte_byte_byte_byte_f16.C a0p a0n a0c a1p a1n a1c w R :=
  ev_ok cxok (c := cx) Try.func15 (code := slices_EqualFunc_byte_byte_byte_byte_f16.code) (by kernel_rfl) [.tmp 6] (by kernel_rfl) 32 (by kernel_rfl) (slices_EqualFunc_byte_byte_byte_byte_f16.sk R) (args := [(Value.slice a0p a0n a0c), (Value.slice a1p a1n a1c), (Value.func (.func 16) #[] #[])]) (Nat.le_of_ble_eq_true rfl) (by kernel_rfl) (o := slices_EqualFunc_byte_byte_byte_byte_f16.owed R) (by kernel_rfl) (slices_EqualFunc_byte_byte_byte_byte_f16.pays R) h

/-! ### slices.Chunk[[]byte,byte]$1: function 51 -/
def slices_Chunk_byte_byte_1_y.b1 (t0 : Nat) (t1 : Nat) (t2 : Nat) (t4 : Int) (w : World) (R : Ending → World → Prop) (C1 : Nat → Nat → Nat → Int → World → Prop) : Prop :=
  ∃ (p1 : Option Addr) (n1 : Nat) (c1 : Nat), w.cell? (⟨t1, 0, none⟩ : Addr) = some (Value.slice p1 n1 c1) ∧
  (cond (decide (t4 < ((n1 : Nat) : Int))) (
      ∃ (x1 : Int), w.drew.cell? (⟨t2, 0, none⟩ : Addr) = some (Value.int .i64 x1) ∧
      (∃ (p2 : Option Addr) (n2 : Nat) (c2 : Nat), w.drew.cell? (⟨t1, 0, none⟩ : Addr) = some (Value.slice p2 n2 c2) ∧
        (chk (decide (0 ≤ t4)) (
            chk (decide (t4 ≤ ((n2 : Nat) : Int))) (
              ∃ (p3 : Option Addr) (n3 : Nat) (c3 : Nat), w.drew.cell? (⟨t1, 0, none⟩ : Addr) = some (Value.slice p3 n3 c3) ∧
              (chk (decide (0 ≤ (IntKind.i64.wrap (t4 + (min2 x1 (((n2 - t4.toNat) : Nat) : Int)))))) (
                  chk (decide ((IntKind.i64.wrap (t4 + (min2 x1 (((n2 - t4.toNat) : Nat) : Int)))) ≤ ((c3 : Nat) : Int))) (
                    chk (decide (0 ≤ (IntKind.i64.wrap (t4 + (min2 x1 (((n2 - t4.toNat) : Nat) : Int)))))) (
                      chk (decide ((IntKind.i64.wrap (t4 + (min2 x1 (((n2 - t4.toNat) : Nat) : Int)))) ≤ (((IntKind.i64.wrap (t4 + (min2 x1 (((n2 - t4.toNat) : Nat) : Int)))).toNat : Nat) : Int))) (
                        chk (decide (0 ≤ t4)) (
                          chk (decide (t4 ≤ (((IntKind.i64.wrap (t4 + (min2 x1 (((n2 - t4.toNat) : Nat) : Int)))).toNat : Nat) : Int))) (
                          yldP Try.prog t0 #[(Value.slice (slA p3 ((IntKind.i64.wrap (t4 + (min2 x1 (((n2 - t4.toNat) : Nat) : Int)))).toNat) t4.toNat 1) ((IntKind.i64.wrap (t4 + (min2 x1 (((n2 - t4.toNat) : Nat) : Int)))).toNat - t4.toNat) ((IntKind.i64.wrap (t4 + (min2 x1 (((n2 - t4.toNat) : Nat) : Int)))).toNat - t4.toNat))] w.drew fun v1 w1 =>
                          dB v1 fun b1 =>
                          cond (!b1) (
                          R (.returned (Value.tuple #[])) w1) (
                          ∃ (x2 : Int), w1.cell? (⟨t2, 0, none⟩ : Addr) = some (Value.int .i64 x2) ∧
                          (C1 t0 t1 t2 (IntKind.i64.wrap (t4 + x2)) w1)))))))))))))) (
      R (.returned (Value.tuple #[])) w))
def slices_Chunk_byte_byte_1_y.l1 (t0 : Nat) (t1 : Nat) (t2 : Nat) (t4 : Int) (w : World) (R : Ending → World → Prop) : Prop :=
  ∃ (I : Nat → Nat → Nat → Int → World → Prop) (m : Nat → Nat → Nat → Int → World → Nat), I t0 t1 t2 t4 w ∧
  ∀ (t0 : Nat) (t1 : Nat) (t2 : Nat) (t4 : Int) (w : World), I t0 t1 t2 t4 w →
  slices_Chunk_byte_byte_1_y.b1 t0 t1 t2 t4 w R (fun t0' t1' t2' t4' w' => I t0' t1' t2' t4' w' ∧ m t0' t1' t2' t4' w' < m t0 t1 t2 t4 w)
def slices_Chunk_byte_byte_1_y.main (l : Nat) (q0 : Nat) (q1 : Nat) (w : World) (R : Ending → World → Prop) : Prop :=
  slices_Chunk_byte_byte_1_y.l1 l q0 q1 0 w R
abbrev slices_Chunk_byte_byte_1_y.C (l : Nat) (q0 : Nat) (q1 : Nat) (w : World) (R : Ending → World → Prop) : Prop := CallsIn Fence.wide 0 Try.prog 51 #[(Value.func (.yield l) #[] #[]), (Value.pointer (some (⟨q0, 0, none⟩ : Addr))), (Value.pointer (some (⟨q1, 0, none⟩ : Addr)))] w R
noncomputable def slices_Chunk_byte_byte_1_y.code : Code := (Try.f51.body).getD .skip
noncomputable def slices_Chunk_byte_byte_1_y.sk (R : Ending → World → Prop) : Sk := (.seq .leaf (.block (.loop [(0, .yld), (1, .blk), (2, .blk), (4, .int .i64)] (fun (t0 : Nat) (t1 : Nat) (t2 : Nat) (t4 : Int) (w : World) => slices_Chunk_byte_byte_1_y.l1 t0 t1 t2 t4 w R) (fun (C1 : Nat → Nat → Nat → Int → World → Prop) => .leaf))))
def slices_Chunk_byte_byte_1_y.owed (R : Ending → World → Prop) : Prop :=
  (∀ (t0 : Nat) (t1 : Nat) (t2 : Nat) (t4 : Int) (w : World), slices_Chunk_byte_byte_1_y.l1 t0 t1 t2 t4 w R → slices_Chunk_byte_byte_1_y.l1 t0 t1 t2 t4 w R) ∧ (∀ (C1 : Nat → Nat → Nat → Int → World → Prop), True) ∧ True
theorem slices_Chunk_byte_byte_1_y.pays (R : Ending → World → Prop) : slices_Chunk_byte_byte_1_y.owed R := ⟨(fun _ _ _ _ _ h => h), (fun _ => trivial), trivial⟩
set_option maxRecDepth 100000 in
theorem slices_Chunk_byte_byte_1_y.ok {l : Nat} {q0 : Nat} {q1 : Nat} {w : World} {R : Ending → World → Prop} (h : slices_Chunk_byte_byte_1_y.main l q0 q1 w R) : slices_Chunk_byte_byte_1_y.C l q0 q1 w R :=
  evX_ok cxok (c := cx) Try.func51 (code := slices_Chunk_byte_byte_1_y.code) (by kernel_rfl) [] (by kernel_rfl) 31 (by kernel_rfl) (slices_Chunk_byte_byte_1_y.sk R) (args := [(Value.func (.yield l) #[] #[]), (Value.pointer (some (⟨q0, 0, none⟩ : Addr))), (Value.pointer (some (⟨q1, 0, none⟩ : Addr)))]) (Nat.le_of_ble_eq_true rfl) (by kernel_rfl) (o := slices_Chunk_byte_byte_1_y.owed R) (by kernel_rfl) (slices_Chunk_byte_byte_1_y.pays R) h

/-! ### slices.IndexFunc[[]complex128,complex128]: function 77 -/
def slices_IndexFunc_complex128_complex128_f63.b1 (t0p : Option Addr) (t0n : Nat) (t0c : Nat) (t1 : Nat) (t7 : Int) (t8 : Int) (w : World) (R : Ending → World → Prop) (C1 : Option Addr → Nat → Nat → Nat → Int → Int → World → Prop) : Prop :=
  cond (decide (t8 < t7)) (
    chk (decide (0 ≤ t8)) (
      chk (decide (t8 < ((t0n : Nat) : Int))) (
        optP t0p fun d1 =>
        ∃ (r1 : Nat) (m1 : Nat), w.cell? (d1.add (t8.toNat * 1)) = some (Value.complex .f64 r1 m1) ∧
        (callP Try.prog 63 #[(Value.complex .f64 r1 m1), (Value.pointer (some (⟨t1, 0, none⟩ : Addr)))] w (fun v1 w1 =>
            dB v1 fun b1 =>
            cond b1 (
              R (.returned (Value.int .i64 t8)) w1) (
              C1 t0p t0n t0c t1 t7 (IntKind.i64.wrap (t8 + 1)) w1)) (fun ch w2 => R (.panicked ch) w2))))) (
    R (.returned (Value.int .i64 (-1))) w)
def slices_IndexFunc_complex128_complex128_f63.l1 (t0p : Option Addr) (t0n : Nat) (t0c : Nat) (t1 : Nat) (t7 : Int) (t8 : Int) (w : World) (R : Ending → World → Prop) : Prop :=
  ∃ (I : Option Addr → Nat → Nat → Nat → Int → Int → World → Prop) (m : Option Addr → Nat → Nat → Nat → Int → Int → World → Nat), I t0p t0n t0c t1 t7 t8 w ∧
  ∀ (t0p : Option Addr) (t0n : Nat) (t0c : Nat) (t1 : Nat) (t7 : Int) (t8 : Int) (w : World), I t0p t0n t0c t1 t7 t8 w →
  slices_IndexFunc_complex128_complex128_f63.b1 t0p t0n t0c t1 t7 t8 w R (fun t0p' t0n' t0c' t1' t7' t8' w' => I t0p' t0n' t0c' t1' t7' t8' w' ∧ m t0p' t0n' t0c' t1' t7' t8' w' < m t0p t0n t0c t1 t7 t8 w)
def slices_IndexFunc_complex128_complex128_f63.main (a0p : Option Addr) (a0n : Nat) (a0c : Nat) (a1q0 : Nat) (w : World) (R : Ending → World → Prop) : Prop :=
  slices_IndexFunc_complex128_complex128_f63.l1 a0p a0n a0c a1q0 ((a0n : Nat) : Int) 0 w R
abbrev slices_IndexFunc_complex128_complex128_f63.C (a0p : Option Addr) (a0n : Nat) (a0c : Nat) (a1q0 : Nat) (w : World) (R : Ending → World → Prop) : Prop := Calls Try.prog 77 #[(Value.slice a0p a0n a0c), (Value.func (.func 63) #[] #[(Value.pointer (some (⟨a1q0, 0, none⟩ : Addr)))])] w R
noncomputable def slices_IndexFunc_complex128_complex128_f63.code : Code := (Try.f77.body).getD .skip
noncomputable def slices_IndexFunc_complex128_complex128_f63.sk (R : Ending → World → Prop) : Sk := (.seq .leaf (.seq (.seq .leaf (.block (.loop [(0, .slice), (1, .fn1 63), (7, .int .i64), (8, .int .i64)] (fun (t0p : Option Addr) (t0n : Nat) (t0c : Nat) (t1 : Nat) (t7 : Int) (t8 : Int) (w : World) => slices_IndexFunc_complex128_complex128_f63.l1 t0p t0n t0c t1 t7 t8 w R) (fun (C1 : Option Addr → Nat → Nat → Nat → Int → Int → World → Prop) => .leaf)))) .leaf))
def slices_IndexFunc_complex128_complex128_f63.owed (R : Ending → World → Prop) : Prop :=
  (∀ (t0p : Option Addr) (t0n : Nat) (t0c : Nat) (t1 : Nat) (t7 : Int) (t8 : Int) (w : World), slices_IndexFunc_complex128_complex128_f63.l1 t0p t0n t0c t1 t7 t8 w R → slices_IndexFunc_complex128_complex128_f63.l1 t0p t0n t0c t1 t7 t8 w R) ∧ (∀ (C1 : Option Addr → Nat → Nat → Nat → Int → Int → World → Prop), True) ∧ True
theorem slices_IndexFunc_complex128_complex128_f63.pays (R : Ending → World → Prop) : slices_IndexFunc_complex128_complex128_f63.owed R := ⟨(fun _ _ _ _ _ _ _ h => h), (fun _ => trivial), trivial⟩
set_option maxRecDepth 100000 in
theorem slices_IndexFunc_complex128_complex128_f63.ok {a0p : Option Addr} {a0n : Nat} {a0c : Nat} {a1q0 : Nat} {w : World} {R : Ending → World → Prop} (h : slices_IndexFunc_complex128_complex128_f63.main a0p a0n a0c a1q0 w R) : slices_IndexFunc_complex128_complex128_f63.C a0p a0n a0c a1q0 w R :=
  ev_ok cxok (c := cx) Try.func77 (code := slices_IndexFunc_complex128_complex128_f63.code) (by kernel_rfl) [.tmp 4] (by kernel_rfl) 19 (by kernel_rfl) (slices_IndexFunc_complex128_complex128_f63.sk R) (args := [(Value.slice a0p a0n a0c), (Value.func (.func 63) #[] #[(Value.pointer (some (⟨a1q0, 0, none⟩ : Addr)))])]) (Nat.le_of_ble_eq_true rfl) (by kernel_rfl) (o := slices_IndexFunc_complex128_complex128_f63.owed R) (by kernel_rfl) (slices_IndexFunc_complex128_complex128_f63.pays R) h

/-! ### slices.IndexFunc[[]complex128,complex128]: function 77 -/
def slices_IndexFunc_complex128_complex128_f75.b1 (t0p : Option Addr) (t0n : Nat) (t0c : Nat) (t7 : Int) (t8 : Int) (w : World) (R : Ending → World → Prop) (C1 : Option Addr → Nat → Nat → Int → Int → World → Prop) : Prop :=
  cond (decide (t8 < t7)) (
    chk (decide (0 ≤ t8)) (
      chk (decide (t8 < ((t0n : Nat) : Int))) (
        optP t0p fun d1 =>
        ∃ (r1 : Nat) (m1 : Nat), w.cell? (d1.add (t8.toNat * 1)) = some (Value.complex .f64 r1 m1) ∧
        (callP Try.prog 75 #[(Value.complex .f64 r1 m1)] w (fun v1 w1 =>
            dB v1 fun b1 =>
            cond b1 (
              R (.returned (Value.int .i64 t8)) w1) (
              C1 t0p t0n t0c t7 (IntKind.i64.wrap (t8 + 1)) w1)) (fun ch w2 => R (.panicked ch) w2))))) (
    R (.returned (Value.int .i64 (-1))) w)
def slices_IndexFunc_complex128_complex128_f75.l1 (t0p : Option Addr) (t0n : Nat) (t0c : Nat) (t7 : Int) (t8 : Int) (w : World) (R : Ending → World → Prop) : Prop :=
  ∃ (I : Option Addr → Nat → Nat → Int → Int → World → Prop) (m : Option Addr → Nat → Nat → Int → Int → World → Nat), I t0p t0n t0c t7 t8 w ∧
  ∀ (t0p : Option Addr) (t0n : Nat) (t0c : Nat) (t7 : Int) (t8 : Int) (w : World), I t0p t0n t0c t7 t8 w →
  slices_IndexFunc_complex128_complex128_f75.b1 t0p t0n t0c t7 t8 w R (fun t0p' t0n' t0c' t7' t8' w' => I t0p' t0n' t0c' t7' t8' w' ∧ m t0p' t0n' t0c' t7' t8' w' < m t0p t0n t0c t7 t8 w)
def slices_IndexFunc_complex128_complex128_f75.main (a0p : Option Addr) (a0n : Nat) (a0c : Nat) (w : World) (R : Ending → World → Prop) : Prop :=
  slices_IndexFunc_complex128_complex128_f75.l1 a0p a0n a0c ((a0n : Nat) : Int) 0 w R
abbrev slices_IndexFunc_complex128_complex128_f75.C (a0p : Option Addr) (a0n : Nat) (a0c : Nat) (w : World) (R : Ending → World → Prop) : Prop := Calls Try.prog 77 #[(Value.slice a0p a0n a0c), (Value.func (.func 75) #[] #[])] w R
noncomputable def slices_IndexFunc_complex128_complex128_f75.code : Code := (Try.f77.body).getD .skip
noncomputable def slices_IndexFunc_complex128_complex128_f75.sk (R : Ending → World → Prop) : Sk := (.seq .leaf (.seq (.seq .leaf (.block (.loop [(0, .slice), (1, .fn0 75), (7, .int .i64), (8, .int .i64)] (fun (t0p : Option Addr) (t0n : Nat) (t0c : Nat) (t7 : Int) (t8 : Int) (w : World) => slices_IndexFunc_complex128_complex128_f75.l1 t0p t0n t0c t7 t8 w R) (fun (C1 : Option Addr → Nat → Nat → Int → Int → World → Prop) => .leaf)))) .leaf))
def slices_IndexFunc_complex128_complex128_f75.owed (R : Ending → World → Prop) : Prop :=
  (∀ (t0p : Option Addr) (t0n : Nat) (t0c : Nat) (t7 : Int) (t8 : Int) (w : World), slices_IndexFunc_complex128_complex128_f75.l1 t0p t0n t0c t7 t8 w R → slices_IndexFunc_complex128_complex128_f75.l1 t0p t0n t0c t7 t8 w R) ∧ (∀ (C1 : Option Addr → Nat → Nat → Int → Int → World → Prop), True) ∧ True
theorem slices_IndexFunc_complex128_complex128_f75.pays (R : Ending → World → Prop) : slices_IndexFunc_complex128_complex128_f75.owed R := ⟨(fun _ _ _ _ _ _ h => h), (fun _ => trivial), trivial⟩
set_option maxRecDepth 100000 in
theorem slices_IndexFunc_complex128_complex128_f75.ok {a0p : Option Addr} {a0n : Nat} {a0c : Nat} {w : World} {R : Ending → World → Prop} (h : slices_IndexFunc_complex128_complex128_f75.main a0p a0n a0c w R) : slices_IndexFunc_complex128_complex128_f75.C a0p a0n a0c w R :=
  ev_ok cxok (c := cx) Try.func77 (code := slices_IndexFunc_complex128_complex128_f75.code) (by kernel_rfl) [.tmp 4] (by kernel_rfl) 19 (by kernel_rfl) (slices_IndexFunc_complex128_complex128_f75.sk R) (args := [(Value.slice a0p a0n a0c), (Value.func (.func 75) #[] #[])]) (Nat.le_of_ble_eq_true rfl) (by kernel_rfl) (o := slices_IndexFunc_complex128_complex128_f75.owed R) (by kernel_rfl) (slices_IndexFunc_complex128_complex128_f75.pays R) h

end Go.Proofs.Ytokepljpieboiaa.G

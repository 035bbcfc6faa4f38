/-
  The check sum: its register, bit by bit and byte by byte; seal.step, seal.More, seal.Sum and the document's More and Sum.
-/
import Derived.Test.YtikclgliegfocaaG1
import Derived.Test.YtikclgliegfocaaDecR
namespace Go.Proofs.Ytikclgliegfocaa.G
open Go.Dec Go.RowKit
set_option linter.unusedVariables false
set_option linter.unusedSimpArgs false

abbrev Reg := BitVec 32
def poly : Reg := 79764919#32
def stp (r : Reg) : Reg := (r <<< 1) ^^^ (if r.msb then poly else 0#32)
def stps : Nat → Reg → Reg
  | 0, r => r
  | k + 1, r => stp (stps k r)
def byt (x : Int) : Reg := BitVec.ofInt 32 x <<< 24
def reg (r : Reg) (xs : List Int) : Reg := xs.foldl (fun r x => stps 8 (r ^^^ byt x)) r
def more (s : Reg) (xs : List Int) : Reg := ~~~ (reg (~~~ s) xs)
def u (r : Reg) : Int := (r.toNat : Int)

theorem u_lt (r : Reg) : 0 ≤ u r ∧ u r < 4294967296 := by
  have := r.isLt
  unfold u
  omega
theorem of_u (r : Reg) : BitVec.ofInt 32 (u r) = r := by simp [u]
theorem u_of {x : Int} (h0 : 0 ≤ x) (h1 : x < 4294967296) : u (BitVec.ofInt 32 x) = x := by
  unfold u
  rw [BitVec.toNat_ofInt]
  omega
theorem u_inj {r s : Reg} : u r = u s ↔ r = s := by
  constructor
  · intro h
    apply BitVec.eq_of_toNat_eq
    unfold u at h
    omega
  · intro h; rw [h]
theorem bits32 : IntKind.u32.bits = 32 := rfl
theorem wrap32 (n : Int) : IntKind.u32.wrap n = n % 4294967296 := by
  simp [IntKind.wrap, IntKind.signed, IntKind.bits]
theorem wrap_u (r : Reg) : IntKind.u32.wrap (u r) = u r := by
  rw [wrap32]
  have := u_lt r
  omega
theorem xor_u (r s : Reg) : IntKind.u32.wrap ((BitVec.ofInt IntKind.u32.bits (u r) ^^^ BitVec.ofInt IntKind.u32.bits (u s)).toNat : Int) = u (r ^^^ s) := by
  show IntKind.u32.wrap ((BitVec.ofInt 32 (u r) ^^^ BitVec.ofInt 32 (u s)).toNat : Int) = _
  rw [of_u, of_u]
  exact wrap_u _
theorem not_u (r : Reg) : IntKind.u32.wrap ((BitVec.ofInt IntKind.u32.bits (if IntKind.u32.signed then -1 else IntKind.u32.max) ^^^ BitVec.ofInt IntKind.u32.bits (u r)).toNat : Int) = u (~~~ r) := by
  have e : BitVec.ofInt 32 (if IntKind.u32.signed then -1 else IntKind.u32.max) = BitVec.allOnes 32 := by decide
  show IntKind.u32.wrap ((BitVec.ofInt 32 (if IntKind.u32.signed then -1 else IntKind.u32.max) ^^^ BitVec.ofInt 32 (u r)).toNat : Int) = _
  rw [e, of_u, BitVec.allOnes_xor]
  exact wrap_u _
theorem shl_u (r : Reg) (k : Nat) (hk : k ≤ 32) : IntKind.u32.wrap (u r * 2 ^ (min k IntKind.u32.bits)) = u (r <<< k) := by
  rw [bits32, Nat.min_eq_left hk, wrap32]
  unfold u
  rw [BitVec.toNat_shiftLeft, Nat.shiftLeft_eq]
  simp
theorem top_u (r : Reg) : Int.fdiv (u r) (2 ^ (min 31 IntKind.u32.bits)) = if r.msb then 1 else 0 := by
  show Int.fdiv (u r) 2147483648 = _
  rw [Int.fdiv_eq_ediv_of_nonneg _ (by omega)]
  have h := r.msb_eq_decide
  have h1 := u_lt r
  rw [h]
  unfold u at *
  by_cases hx : 2147483648 ≤ r.toNat
  · rw [if_pos (by simpa using hx)]; omega
  · rw [if_neg (by simpa using hx)]; omega
theorem poly_u (r : Reg) : IntKind.u32.wrap (79764919 * Int.fdiv (u r) (2 ^ (min 31 IntKind.u32.bits))) = u (if r.msb then poly else 0#32) := by
  rw [top_u]
  cases r.msb <;> decide
theorem stp_u (r : Reg) : IntKind.u32.wrap ((BitVec.ofInt IntKind.u32.bits (IntKind.u32.wrap (u r * 2 ^ (min 1 IntKind.u32.bits))) ^^^ BitVec.ofInt IntKind.u32.bits (IntKind.u32.wrap (79764919 * Int.fdiv (u r) (2 ^ (min 31 IntKind.u32.bits))))).toNat : Int) = u (stp r) := by
  rw [shl_u r 1 (by omega), poly_u, xor_u]
  rfl

theorem step_spec (r : Reg) (w : World) : seal_step.C (u r) w (Ret fun v w' => v = .int .u32 (u (stps 8 r)) ∧ Ex w w') := by
  apply seal_step.ok
  unfold seal_step.main seal_step.l1
  refine ⟨fun x i w1 => ∃ j : Nat, i = j ∧ j ≤ 8 ∧ x = u (stps j r) ∧ w = w1, fun _ i _ => (8 - i).toNat, ⟨0, rfl, by omega, rfl, rfl⟩, ?_⟩
  rintro _ _ w1 ⟨j, rfl, hj, rfl, rfl⟩
  unfold seal_step.b1
  by_cases hlt : (j : Int) < 8
  · rw [condd_pos hlt, stp_u, w64 (by omega) (by omega)]
    exact ⟨⟨j + 1, by omega, by omega, rfl, rfl⟩, by ((try dsimp only); omega)⟩
  · rw [condd_neg hlt]
    obtain rfl : j = 8 := by omega
    exact Ret.mk ⟨rfl, Ex.refl w⟩
theorem byt_u {x : Int} (h0 : 0 ≤ x) (h1 : x < 256) : IntKind.u32.wrap (IntKind.u32.wrap x * 2 ^ (min 24 IntKind.u32.bits)) = u (byt x) := by
  have e : IntKind.u32.wrap x = u (BitVec.ofInt 32 x) := by rw [wrap32, u_of h0 (by omega)]; omega
  rw [e, shl_u _ 24 (by omega)]
  rfl
theorem reg_snoc (r : Reg) (xs : List Int) (x : Int) : reg r (xs ++ [x]) = stps 8 (reg r xs ^^^ byt x) := by simp [reg]
theorem take_next {α : Type} {l : List α} {j : Nat} (hj : j < l.length) : l.take (j + 1) = l.take j ++ [l[j]] := List.take_succ_eq_append_getElem hj
theorem map_get {w : World} {k : IntKind} {p : Option Addr} {xs : List Int} (hc : CellsO w p (xs.map (Value.int k))) {j : Nat} (hj : j < xs.length) : ∃ a, p = some a ∧ w.cell? (a.add j) = some (.int k xs[j]) := by
  cases p with
  | none => have : xs.map (Value.int k) = [] := hc; simp at this; subst this; simp at hj
  | some a => exact ⟨a, rfl, hc j _ (by simp [hj])⟩
def v8 (xs : List Int) : List Value := xs.map (.int .u8)
theorem More_spec (s : Reg) (p : Option Addr) (n c : Nat) (xs : List Int) (w : World) (hc : CellsO w p (v8 xs)) (hn : xs.length = n) (hl : n ≤ 9223372036854775806) (hb : ∀ x ∈ xs, 0 ≤ x ∧ x < 256) :
    seal_More.C (u s) p n c w (Ret fun v w' => v = .int .u32 (u (more s xs)) ∧ Ex w w') := by
  apply seal_More.ok
  unfold seal_More.main seal_More.l1
  rw [not_u]
  refine ⟨fun x p1 n1 c1 t i w1 => p = p1 ∧ n = n1 ∧ c = c1 ∧ (n : Int) = t ∧ ∃ j : Nat, i = j ∧ j ≤ n ∧ x = u (reg (~~~ s) (xs.take j)) ∧ Ex w w1, fun _ _ _ _ _ i _ => (n - i).toNat, ⟨rfl, rfl, rfl, rfl, 0, rfl, by omega, rfl, Ex.refl w⟩, ?_⟩
  rintro _ _ _ _ _ _ w1 ⟨rfl, rfl, rfl, rfl, j, rfl, hj, rfl, h1⟩
  unfold seal_More.b1
  by_cases hlt : (j : Int) < n
  · rw [condd_pos hlt]
    have hjl : j < xs.length := by omega
    obtain ⟨a1, hp1, hcell⟩ := map_get (hc.ex h1) hjl
    refine chkd_of (by omega) (chkd_of hlt (optP_of hp1 ?_))
    refine ⟨xs[j], by simpa using hcell, ?_⟩
    obtain ⟨b0, b1⟩ := hb xs[j] (List.getElem_mem _)
    rw [byt_u b0 b1, xor_u]
    refine callP.use (step_spec _ w1) ?_
    rintro _ w2 ⟨rfl, h2⟩
    try dsimp only [dI_i64, dI_u8, dI_u16, dI_u32, dB_bool, dS_slice, dP_ptr, dT_tup, dA_agg, dStr_str, dF_f, dC_c, dM_m, optP_some, ga0, ga1, ga2, ga3, ga4, cond_true, cond_false, chk_true, Bool.not_true, Bool.not_false, Option.isNone_none, Option.isNone_some]
    rw [w64 (by omega) (by omega)]
    refine ⟨⟨rfl, rfl, rfl, rfl, j + 1, by omega, by omega, ?_, h1.trans h2⟩, by ((try dsimp only); omega)⟩
    rw [take_next hjl, reg_snoc]
  · rw [condd_neg hlt, not_u]
    have : j = xs.length := by omega
    subst this
    rw [List.take_length]
    exact Ret.mk ⟨rfl, h1⟩
theorem Sum_spec (p : Option Addr) (n c : Nat) (xs : List Int) (w : World) (hc : CellsO w p (v8 xs)) (hn : xs.length = n) (hl : n ≤ 9223372036854775806) (hb : ∀ x ∈ xs, 0 ≤ x ∧ x < 256) :
    seal_Sum.C p n c w (Ret fun v w' => v = .int .u32 (u (more 0#32 xs)) ∧ Ex w w') := by
  apply seal_Sum.ok
  unfold seal_Sum.main
  refine callP.use (More_spec 0#32 p n c xs w hc hn hl hb) ?_
  rintro _ w1 ⟨rfl, h1⟩
  try dsimp only [dI_i64, dI_u8, dI_u16, dI_u32, dB_bool, dS_slice, dP_ptr, dT_tup, dA_agg, dStr_str, dF_f, dC_c, dM_m, optP_some, ga0, ga1, ga2, ga3, ga4, cond_true, cond_false, chk_true, Bool.not_true, Bool.not_false, Option.isNone_none, Option.isNone_some]
  exact Ret.mk ⟨rfl, h1⟩

/-! ### The document's, bit by bit -/
theorem stp_xor (x y : Reg) : stp (x ^^^ y) = stp x ^^^ stp y := by
  unfold stp
  rw [BitVec.msb_xor]
  have e : (x ^^^ y) <<< 1 = x <<< 1 ^^^ y <<< 1 := by
    apply BitVec.eq_of_getLsbD_eq
    intro i hi
    simp only [BitVec.getLsbD_shiftLeft, BitVec.getLsbD_xor]
    cases decide (i < 32) <;> cases decide (i < 1) <;> simp
  rw [e]
  cases x.msb <;> cases y.msb <;> simp <;> grind
theorem stps_xor (k : Nat) (x y : Reg) : stps k (x ^^^ y) = stps k x ^^^ stps k y := by
  induction k with
  | zero => rfl
  | succ k ih => simp only [stps, ih, stp_xor]
theorem bit_fin : ∀ (x : Fin 256) (j : Fin 8), IntKind.u32.wrap ((BitVec.ofInt IntKind.u32.bits (Int.fdiv (IntKind.u32.wrap (x.val : Int)) (2 ^ (min (7 - j.val) IntKind.u32.bits))) &&& BitVec.ofInt IntKind.u32.bits 1).toNat : Int) = if (byt (x.val : Int) <<< j.val).msb then 1 else 0 := by decide +kernel
theorem bit_at {x : Int} (h0 : 0 ≤ x) (h1 : x < 256) {j : Nat} (hj : j < 8) : IntKind.u32.wrap ((BitVec.ofInt IntKind.u32.bits (Int.fdiv (IntKind.u32.wrap x) (2 ^ (min (7 - j) IntKind.u32.bits))) &&& BitVec.ofInt IntKind.u32.bits 1).toNat : Int) = if (byt x <<< j).msb then 1 else 0 := by
  obtain ⟨m, rfl⟩ : ∃ m : Nat, x = m := ⟨x.toNat, by omega⟩
  exact bit_fin ⟨m, by omega⟩ ⟨j, hj⟩
theorem byt_out (x : Int) : byt x <<< 8 = 0#32 := by
  unfold byt
  apply BitVec.eq_of_getLsbD_eq
  intro i hi
  simp only [BitVec.getLsbD_shiftLeft, BitVec.getLsbD_zero]
  by_cases h : i < 8
  · simp [h]
  · have : i - 8 < 24 := by omega
    simp [this]
theorem out_bit (a b : Bool) : (IntKind.u32.wrap ((BitVec.ofInt IntKind.u32.bits (if a then 1 else 0) ^^^ BitVec.ofInt IntKind.u32.bits (if b then 1 else 0)).toNat : Int) == 1) = (a ^^ b) := by cases a <;> cases b <;> decide
theorem dbl_u (r : Reg) : IntKind.u32.wrap (u r * 2) = u (r <<< 1) := by
  have := shl_u r 1 (by omega)
  simpa [bits32] using this
theorem stp_split (r y : Reg) : stp (r ^^^ y) = (r <<< 1 ^^^ (if (r.msb ^^ y.msb) then poly else 0#32)) ^^^ y <<< 1 := by
  rw [stp_xor]
  unfold stp
  cases r.msb <;> cases y.msb <;> simp <;> grind
theorem shl_shl (y : Reg) (j : Nat) : (y <<< j) <<< 1 = y <<< (j + 1) := by rw [← BitVec.shiftLeft_add]
theorem refMore_spec (s : Reg) (p : Option Addr) (n c : Nat) (xs : List Int) (w : World) (hc : CellsO w p (v8 xs)) (hn : xs.length = n) (hl : n ≤ 9223372036854775806) (hb : ∀ x ∈ xs, 0 ≤ x ∧ x < 256) :
    stopcockref03_More.C (u s) p n c w (Ret fun v w' => v = .int .u32 (u (more s xs)) ∧ Ex w w') := by
  apply stopcockref03_More.ok
  unfold stopcockref03_More.main stopcockref03_More.l1
  have hff : ∀ r : Reg, IntKind.u32.wrap ((BitVec.ofInt IntKind.u32.bits (u r) ^^^ BitVec.ofInt IntKind.u32.bits 4294967295).toNat : Int) = u (~~~ r) := fun r => by
    have e : (4294967295 : Int) = u (BitVec.allOnes 32) := by decide
    rw [e, xor_u, BitVec.xor_allOnes]
  rw [hff]
  refine ⟨fun p1 n1 c1 x i w1 => p = p1 ∧ n = n1 ∧ c = c1 ∧ ∃ j : Nat, i = j ∧ j ≤ n ∧ x = u (reg (~~~ s) (xs.take j)) ∧ w = w1, fun _ _ _ _ i _ => (n - i).toNat, ⟨rfl, rfl, rfl, 0, rfl, by omega, rfl, rfl⟩, ?_⟩
  rintro _ _ _ _ _ w1 ⟨rfl, rfl, rfl, i, rfl, hi, rfl, rfl⟩
  unfold stopcockref03_More.b1
  by_cases hlt : (i : Int) < n
  · rw [condd_pos hlt]
    have hil : i < xs.length := by omega
    obtain ⟨a1, hp1, hcell⟩ := map_get hc hil
    obtain ⟨b0, b1⟩ := hb xs[i] (List.getElem_mem _)
    unfold stopcockref03_More.l2
    refine ⟨fun p1 n1 c1 x i1 k w1 => p = p1 ∧ n = n1 ∧ c = c1 ∧ (i : Int) = i1 ∧ ∃ (j : Nat) (r : Reg), k = 7 - (j : Int) ∧ j ≤ 8 ∧ x = u r ∧ r ^^^ byt xs[i] <<< j = stps j (reg (~~~ s) (xs.take i) ^^^ byt xs[i]) ∧ w = w1, fun _ _ _ _ _ k _ => (k + 1).toNat,
      ⟨rfl, rfl, rfl, rfl, 0, _, rfl, by omega, rfl, by rw [BitVec.shiftLeft_zero]; rfl, rfl⟩, ?_⟩
    rintro _ _ _ _ _ _ w1 ⟨rfl, rfl, rfl, rfl, j, r, rfl, hj, rfl, he, rfl⟩
    unfold stopcockref03_More.b2
    by_cases hk : (7 - (j : Int)) ≥ 0
    · rw [condd_pos hk]
      refine chkd_of (by omega) (chkd_of hlt (optP_of hp1 ?_))
      refine ⟨xs[i], by simpa using hcell, ?_⟩
      refine chkd_of (by omega) ?_
      have e7 : (7 - (j : Int)).toNat = 7 - j := by omega
      rw [e7, bit_at b0 b1 (by omega), top_u, out_bit]
      have hnext : ∀ z : Bool, z = (r.msb ^^ (byt xs[i] <<< j).msb) → (r <<< 1 ^^^ (if z then poly else 0#32)) ^^^ byt xs[i] <<< (j + 1) = stps (j + 1) (reg (~~~ s) (xs.take i) ^^^ byt xs[i]) := by
        rintro z rfl
        show _ = stp (stps j _)
        rw [← he, stp_split, shl_shl]
      have hp : (79764919 : Int) = u poly := by decide
      rw [dbl_u, hp, xor_u]
      refine cond_of (fun hz => ?_) (fun hz => ?_)
      · have := hnext true hz.symm
        rw [if_pos rfl] at this
        rw [w64 (by omega) (by omega)]
        exact ⟨⟨rfl, rfl, rfl, rfl, j + 1, _, by omega, by omega, rfl, this, rfl⟩, by ((try dsimp only); omega)⟩
      · have := hnext false hz.symm
        rw [if_neg (by decide), BitVec.xor_zero] at this
        rw [w64 (by omega) (by omega)]
        exact ⟨⟨rfl, rfl, rfl, rfl, j + 1, _, by omega, by omega, rfl, this, rfl⟩, by ((try dsimp only); omega)⟩
    · rw [condd_neg hk]
      obtain rfl : j = 8 := by omega
      rw [byt_out, BitVec.xor_zero] at he
      rw [w64 (by omega) (by omega)]
      refine ⟨⟨rfl, rfl, rfl, i + 1, by omega, by omega, ?_, rfl⟩, by ((try dsimp only); omega)⟩
      rw [take_next hil, reg_snoc, he]
  · rw [condd_neg hlt, hff]
    have : i = xs.length := by omega
    subst this
    rw [List.take_length]
    exact Ret.mk ⟨rfl, Ex.refl w⟩
theorem refSum_spec (p : Option Addr) (n c : Nat) (xs : List Int) (w : World) (hc : CellsO w p (v8 xs)) (hn : xs.length = n) (hl : n ≤ 9223372036854775806) (hb : ∀ x ∈ xs, 0 ≤ x ∧ x < 256) :
    stopcockref03_Sum.C p n c w (Ret fun v w' => v = .int .u32 (u (more 0#32 xs)) ∧ Ex w w') := by
  apply stopcockref03_Sum.ok
  unfold stopcockref03_Sum.main
  refine callP.use (refMore_spec 0#32 p n c xs w hc hn hl hb) ?_
  rintro _ w1 ⟨rfl, h1⟩
  try dsimp only [dI_i64, dI_u8, dI_u16, dI_u32, dB_bool, dS_slice, dP_ptr, dT_tup, dA_agg, dStr_str, dF_f, dC_c, dM_m, optP_some, ga0, ga1, ga2, ga3, ga4, cond_true, cond_false, chk_true, Bool.not_true, Bool.not_false, Option.isNone_none, Option.isNone_some]
  exact Ret.mk ⟨rfl, h1⟩
end Go.Proofs.Ytikclgliegfocaa.G

/-
  seal, turned from the texts of seat c03 by wip/tool/port.py.
-/
import Derived.Test.YthgmebhkbbehmaaG0
import Derived.Test.YthgmebhkbbehmaaG1
import Derived.Test.YthgmebhkbbehmaaG2
import Derived.Test.YthgmebhkbbehmaaG3
import Derived.Test.YthgmebhkbbehmaaG4
import Derived.Test.YthgmebhkbbehmaaG5
import Derived.Test.YthgmebhkbbehmaaDecW
namespace Go.Proofs.Ythgmebhkbbehmaa.G
open Go.Dec Go.RowKit
set_option linter.unusedVariables false
set_option linter.unusedSimpArgs false

abbrev Reg := BitVec 32
def poly : Reg := 79764919#32
def stp (r : Reg) : Reg := (r <<< 1) ^^^ (if r.msb then poly else 0#32)
def stps : Nat → Reg → Reg
  | 0, r => r
  | k + 1, r => stp (stps k r)
def byt (x : Int) : Reg := BitVec.ofInt 32 x <<< 24
def reg (r : Reg) (xs : List Int) : Reg := xs.foldl (fun r x => stps 8 (r ^^^ byt x)) r
def more (s : Reg) (xs : List Int) : Reg := ~~~ (reg (~~~ s) xs)
def u (r : Reg) : Int := (r.toNat : Int)

theorem u_lt (r : Reg) : 0 ≤ u r ∧ u r < 4294967296 := by
  have := r.isLt
  unfold u
  omega
theorem of_u (r : Reg) : BitVec.ofInt 32 (u r) = r := by simp [u]
theorem u_of {x : Int} (h0 : 0 ≤ x) (h1 : x < 4294967296) : u (BitVec.ofInt 32 x) = x := by
  unfold u
  rw [BitVec.toNat_ofInt]
  omega
theorem u_inj {r s : Reg} : u r = u s ↔ r = s := by
  constructor
  · intro h
    apply BitVec.eq_of_toNat_eq
    unfold u at h
    omega
  · intro h; rw [h]
theorem bits32 : IntKind.u32.bits = 32 := rfl
theorem wrap32 (n : Int) : IntKind.u32.wrap n = n % 4294967296 := by
  simp [IntKind.wrap, IntKind.signed, IntKind.bits]
theorem wrap_u (r : Reg) : IntKind.u32.wrap (u r) = u r := by
  rw [wrap32]
  have := u_lt r
  omega
theorem xor_u (r s : Reg) : IntKind.u32.wrap ((BitVec.ofInt IntKind.u32.bits (u r) ^^^ BitVec.ofInt IntKind.u32.bits (u s)).toNat : Int) = u (r ^^^ s) := by
  show IntKind.u32.wrap ((BitVec.ofInt 32 (u r) ^^^ BitVec.ofInt 32 (u s)).toNat : Int) = _
  rw [of_u, of_u]
  exact wrap_u _
theorem not_u (r : Reg) : IntKind.u32.wrap ((BitVec.ofInt IntKind.u32.bits (if IntKind.u32.signed then -1 else IntKind.u32.max) ^^^ BitVec.ofInt IntKind.u32.bits (u r)).toNat : Int) = u (~~~ r) := by
  have e : BitVec.ofInt 32 (if IntKind.u32.signed then -1 else IntKind.u32.max) = BitVec.allOnes 32 := by decide
  show IntKind.u32.wrap ((BitVec.ofInt 32 (if IntKind.u32.signed then -1 else IntKind.u32.max) ^^^ BitVec.ofInt 32 (u r)).toNat : Int) = _
  rw [e, of_u, BitVec.allOnes_xor]
  exact wrap_u _
theorem shl_u (r : Reg) (k : Nat) (hk : k ≤ 32) : IntKind.u32.wrap (u r * 2 ^ (min k IntKind.u32.bits)) = u (r <<< k) := by
  rw [bits32, Nat.min_eq_left hk, wrap32]
  unfold u
  rw [BitVec.toNat_shiftLeft, Nat.shiftLeft_eq]
  simp
theorem top_u (r : Reg) : Int.fdiv (u r) (2 ^ (min 31 IntKind.u32.bits)) = if r.msb then 1 else 0 := by
  show Int.fdiv (u r) 2147483648 = _
  rw [Int.fdiv_eq_ediv_of_nonneg _ (by omega)]
  have h := r.msb_eq_decide
  have h1 := u_lt r
  rw [h]
  unfold u at *
  by_cases hx : 2147483648 ≤ r.toNat
  · rw [if_pos (by simpa using hx)]; omega
  · rw [if_neg (by simpa using hx)]; omega
theorem poly_u (r : Reg) : IntKind.u32.wrap (79764919 * Int.fdiv (u r) (2 ^ (min 31 IntKind.u32.bits))) = u (if r.msb then poly else 0#32) := by
  rw [top_u]
  cases r.msb <;> decide
theorem stp_u (r : Reg) : IntKind.u32.wrap ((BitVec.ofInt IntKind.u32.bits (IntKind.u32.wrap (u r * 2 ^ (min 1 IntKind.u32.bits))) ^^^ BitVec.ofInt IntKind.u32.bits (IntKind.u32.wrap (79764919 * Int.fdiv (u r) (2 ^ (min 31 IntKind.u32.bits))))).toNat : Int) = u (stp r) := by
  rw [shl_u r 1 (by omega), poly_u, xor_u]
  rfl

theorem step_spec (r : Reg) (w : World) : seal_step.C (u r) w (Ret fun v w' => v = .int .u32 (u (stps 8 r)) ∧ Ex w w') := by
  apply seal_step.ok
  unfold seal_step.main seal_step.l1
  refine ⟨fun x i w1 => ∃ j : Nat, i = j ∧ j ≤ 8 ∧ x = u (stps j r) ∧ w = w1, fun _ i _ => (8 - i).toNat, ⟨0, rfl, by omega, rfl, rfl⟩, ?_⟩
  rintro _ _ w1 ⟨j, rfl, hj, rfl, rfl⟩
  unfold seal_step.b1
  by_cases hlt : (j : Int) < 8
  · rw [condd_pos hlt, stp_u, w64 (by omega) (by omega)]
    exact ⟨⟨j + 1, by omega, by omega, rfl, rfl⟩, by ((try dsimp only); omega)⟩
  · rw [condd_neg hlt]
    obtain rfl : j = 8 := by omega
    exact Ret.mk ⟨rfl, Ex.refl w⟩
theorem byt_u {x : Int} (h0 : 0 ≤ x) (h1 : x < 256) : IntKind.u32.wrap (IntKind.u32.wrap x * 2 ^ (min 24 IntKind.u32.bits)) = u (byt x) := by
  have e : IntKind.u32.wrap x = u (BitVec.ofInt 32 x) := by rw [wrap32, u_of h0 (by omega)]; omega
  rw [e, shl_u _ 24 (by omega)]
  rfl
theorem reg_snoc (r : Reg) (xs : List Int) (x : Int) : reg r (xs ++ [x]) = stps 8 (reg r xs ^^^ byt x) := by simp [reg]
theorem take_next {α : Type} {l : List α} {j : Nat} (hj : j < l.length) : l.take (j + 1) = l.take j ++ [l[j]] := List.take_succ_eq_append_getElem hj
theorem map_get {w : World} {k : IntKind} {p : Option Addr} {xs : List Int} (hc : CellsO w p (xs.map (Value.int k))) {j : Nat} (hj : j < xs.length) : ∃ a, p = some a ∧ w.cell? (a.add j) = some (.int k xs[j]) := by
  cases p with
  | none => have : xs.map (Value.int k) = [] := hc; simp at this; subst this; simp at hj
  | some a => exact ⟨a, rfl, hc j _ (by simp [hj])⟩
def v8 (xs : List Int) : List Value := xs.map (.int .u8)
theorem More_spec (s : Reg) (p : Option Addr) (n c : Nat) (xs : List Int) (w : World) (hc : CellsO w p (v8 xs)) (hn : xs.length = n) (hl : n ≤ 9223372036854775806) (hb : ∀ x ∈ xs, 0 ≤ x ∧ x < 256) :
    seal_More.C (u s) p n c w (Ret fun v w' => v = .int .u32 (u (more s xs)) ∧ Ex w w') := by
  apply seal_More.ok
  unfold seal_More.main seal_More.l1
  rw [not_u]
  refine ⟨fun x p1 n1 c1 t i w1 => p = p1 ∧ n = n1 ∧ c = c1 ∧ (n : Int) = t ∧ ∃ j : Nat, i = j ∧ j ≤ n ∧ x = u (reg (~~~ s) (xs.take j)) ∧ Ex w w1, fun _ _ _ _ _ i _ => (n - i).toNat, ⟨rfl, rfl, rfl, rfl, 0, rfl, by omega, rfl, Ex.refl w⟩, ?_⟩
  rintro _ _ _ _ _ _ w1 ⟨rfl, rfl, rfl, rfl, j, rfl, hj, rfl, h1⟩
  unfold seal_More.b1
  by_cases hlt : (j : Int) < n
  · rw [condd_pos hlt]
    have hjl : j < xs.length := by omega
    obtain ⟨a1, hp1, hcell⟩ := map_get (hc.ex h1) hjl
    refine chkd_of (by omega) (chkd_of hlt (optP_of hp1 ?_))
    refine ⟨xs[j], by simpa using hcell, ?_⟩
    obtain ⟨b0, b1⟩ := hb xs[j] (List.getElem_mem _)
    rw [byt_u b0 b1, xor_u]
    refine callP.use (step_spec _ w1) ?_
    rintro _ w2 ⟨rfl, h2⟩
    try dsimp only [dI_i64, dI_u8, dI_u16, dI_u32, dB_bool, dS_slice, dP_ptr, dT_tup, dA_agg, dStr_str, dF_f, dC_c, dM_m, optP_some, ga0, ga1, ga2, ga3, ga4, cond_true, cond_false, chk_true, Bool.not_true, Bool.not_false, Option.isNone_none, Option.isNone_some, List.toList_toArray]
    rw [w64 (by omega) (by omega)]
    refine ⟨⟨rfl, rfl, rfl, rfl, j + 1, by omega, by omega, ?_, h1.trans h2⟩, by ((try dsimp only); omega)⟩
    rw [take_next hjl, reg_snoc]
  · rw [condd_neg hlt, not_u]
    have : j = xs.length := by omega
    subst this
    rw [List.take_length]
    exact Ret.mk ⟨rfl, h1⟩
theorem Sum_spec (p : Option Addr) (n c : Nat) (xs : List Int) (w : World) (hc : CellsO w p (v8 xs)) (hn : xs.length = n) (hl : n ≤ 9223372036854775806) (hb : ∀ x ∈ xs, 0 ≤ x ∧ x < 256) :
    seal_Sum.C p n c w (Ret fun v w' => v = .int .u32 (u (more 0#32 xs)) ∧ Ex w w') := by
  apply seal_Sum.ok
  unfold seal_Sum.main
  refine callP.use (More_spec 0#32 p n c xs w hc hn hl hb) ?_
  rintro _ w1 ⟨rfl, h1⟩
  try dsimp only [dI_i64, dI_u8, dI_u16, dI_u32, dB_bool, dS_slice, dP_ptr, dT_tup, dA_agg, dStr_str, dF_f, dC_c, dM_m, optP_some, ga0, ga1, ga2, ga3, ga4, cond_true, cond_false, chk_true, Bool.not_true, Bool.not_false, Option.isNone_none, Option.isNone_some, List.toList_toArray]
  exact Ret.mk ⟨rfl, h1⟩

/-! ### The document's, bit by bit -/
theorem stp_xor (x y : Reg) : stp (x ^^^ y) = stp x ^^^ stp y := by
  unfold stp
  rw [BitVec.msb_xor]
  have e : (x ^^^ y) <<< 1 = x <<< 1 ^^^ y <<< 1 := by
    apply BitVec.eq_of_getLsbD_eq
    intro i hi
    simp only [BitVec.getLsbD_shiftLeft, BitVec.getLsbD_xor]
    cases decide (i < 32) <;> cases decide (i < 1) <;> simp
  rw [e]
  cases x.msb <;> cases y.msb <;> simp <;> grind
theorem stps_xor (k : Nat) (x y : Reg) : stps k (x ^^^ y) = stps k x ^^^ stps k y := by
  induction k with
  | zero => rfl
  | succ k ih => simp only [stps, ih, stp_xor]
theorem bit_fin : ∀ (x : Fin 256) (j : Fin 8), IntKind.u32.wrap ((BitVec.ofInt IntKind.u32.bits (Int.fdiv (IntKind.u32.wrap (x.val : Int)) (2 ^ (min (7 - j.val) IntKind.u32.bits))) &&& BitVec.ofInt IntKind.u32.bits 1).toNat : Int) = if (byt (x.val : Int) <<< j.val).msb then 1 else 0 := by decide +kernel
theorem bit_at {x : Int} (h0 : 0 ≤ x) (h1 : x < 256) {j : Nat} (hj : j < 8) : IntKind.u32.wrap ((BitVec.ofInt IntKind.u32.bits (Int.fdiv (IntKind.u32.wrap x) (2 ^ (min (7 - j) IntKind.u32.bits))) &&& BitVec.ofInt IntKind.u32.bits 1).toNat : Int) = if (byt x <<< j).msb then 1 else 0 := by
  obtain ⟨m, rfl⟩ : ∃ m : Nat, x = m := ⟨x.toNat, by omega⟩
  exact bit_fin ⟨m, by omega⟩ ⟨j, hj⟩
theorem byt_out (x : Int) : byt x <<< 8 = 0#32 := by
  unfold byt
  apply BitVec.eq_of_getLsbD_eq
  intro i hi
  simp only [BitVec.getLsbD_shiftLeft, BitVec.getLsbD_zero]
  by_cases h : i < 8
  · simp [h]
  · have : i - 8 < 24 := by omega
    simp [this]
theorem out_bit (a b : Bool) : (IntKind.u32.wrap ((BitVec.ofInt IntKind.u32.bits (if a then 1 else 0) ^^^ BitVec.ofInt IntKind.u32.bits (if b then 1 else 0)).toNat : Int) == 1) = (a ^^ b) := by cases a <;> cases b <;> decide
theorem dbl_u (r : Reg) : IntKind.u32.wrap (u r * 2) = u (r <<< 1) := by
  have := shl_u r 1 (by omega)
  simpa [bits32] using this
theorem stp_split (r y : Reg) : stp (r ^^^ y) = (r <<< 1 ^^^ (if (r.msb ^^ y.msb) then poly else 0#32)) ^^^ y <<< 1 := by
  rw [stp_xor]
  unfold stp
  cases r.msb <;> cases y.msb <;> simp <;> grind
theorem shl_shl (y : Reg) (j : Nat) : (y <<< j) <<< 1 = y <<< (j + 1) := by rw [← BitVec.shiftLeft_add]
theorem refMore_spec (s : Reg) (p : Option Addr) (n c : Nat) (xs : List Int) (w : World) (hc : CellsO w p (v8 xs)) (hn : xs.length = n) (hl : n ≤ 9223372036854775806) (hb : ∀ x ∈ xs, 0 ≤ x ∧ x < 256) :
    stopcockref03_More.C (u s) p n c w (Ret fun v w' => v = .int .u32 (u (more s xs)) ∧ Ex w w') := by
  apply stopcockref03_More.ok
  unfold stopcockref03_More.main stopcockref03_More.l1
  have hff : ∀ r : Reg, IntKind.u32.wrap ((BitVec.ofInt IntKind.u32.bits (u r) ^^^ BitVec.ofInt IntKind.u32.bits 4294967295).toNat : Int) = u (~~~ r) := fun r => by
    have e : (4294967295 : Int) = u (BitVec.allOnes 32) := by decide
    rw [e, xor_u, BitVec.xor_allOnes]
  rw [hff]
  refine ⟨fun p1 n1 c1 x i w1 => p = p1 ∧ n = n1 ∧ c = c1 ∧ ∃ j : Nat, i = j ∧ j ≤ n ∧ x = u (reg (~~~ s) (xs.take j)) ∧ w = w1, fun _ _ _ _ i _ => (n - i).toNat, ⟨rfl, rfl, rfl, 0, rfl, by omega, rfl, rfl⟩, ?_⟩
  rintro _ _ _ _ _ w1 ⟨rfl, rfl, rfl, i, rfl, hi, rfl, rfl⟩
  unfold stopcockref03_More.b1
  by_cases hlt : (i : Int) < n
  · rw [condd_pos hlt]
    have hil : i < xs.length := by omega
    obtain ⟨a1, hp1, hcell⟩ := map_get hc hil
    obtain ⟨b0, b1⟩ := hb xs[i] (List.getElem_mem _)
    unfold stopcockref03_More.l2
    refine ⟨fun p1 n1 c1 x i1 k w1 => p = p1 ∧ n = n1 ∧ c = c1 ∧ (i : Int) = i1 ∧ ∃ (j : Nat) (r : Reg), k = 7 - (j : Int) ∧ j ≤ 8 ∧ x = u r ∧ r ^^^ byt xs[i] <<< j = stps j (reg (~~~ s) (xs.take i) ^^^ byt xs[i]) ∧ w = w1, fun _ _ _ _ _ k _ => (k + 1).toNat,
      ⟨rfl, rfl, rfl, rfl, 0, _, rfl, by omega, rfl, by rw [BitVec.shiftLeft_zero]; rfl, rfl⟩, ?_⟩
    rintro _ _ _ _ _ _ w1 ⟨rfl, rfl, rfl, rfl, j, r, rfl, hj, rfl, he, rfl⟩
    unfold stopcockref03_More.b2
    by_cases hk : (7 - (j : Int)) ≥ 0
    · rw [condd_pos hk]
      refine chkd_of (by omega) (chkd_of hlt (optP_of hp1 ?_))
      refine ⟨xs[i], by simpa using hcell, ?_⟩
      refine chkd_of (by omega) ?_
      have e7 : (7 - (j : Int)).toNat = 7 - j := by omega
      rw [e7, bit_at b0 b1 (by omega), top_u, out_bit]
      have hnext : ∀ z : Bool, z = (r.msb ^^ (byt xs[i] <<< j).msb) → (r <<< 1 ^^^ (if z then poly else 0#32)) ^^^ byt xs[i] <<< (j + 1) = stps (j + 1) (reg (~~~ s) (xs.take i) ^^^ byt xs[i]) := by
        rintro z rfl
        show _ = stp (stps j _)
        rw [← he, stp_split, shl_shl]
      have hp : (79764919 : Int) = u poly := by decide
      rw [dbl_u, hp, xor_u]
      refine cond_of (fun hz => ?_) (fun hz => ?_)
      · have := hnext true hz.symm
        rw [if_pos rfl] at this
        rw [w64 (by omega) (by omega)]
        exact ⟨⟨rfl, rfl, rfl, rfl, j + 1, _, by omega, by omega, rfl, this, rfl⟩, by ((try dsimp only); omega)⟩
      · have := hnext false hz.symm
        rw [if_neg (by decide), BitVec.xor_zero] at this
        rw [w64 (by omega) (by omega)]
        exact ⟨⟨rfl, rfl, rfl, rfl, j + 1, _, by omega, by omega, rfl, this, rfl⟩, by ((try dsimp only); omega)⟩
    · rw [condd_neg hk]
      obtain rfl : j = 8 := by omega
      rw [byt_out, BitVec.xor_zero] at he
      rw [w64 (by omega) (by omega)]
      refine ⟨⟨rfl, rfl, rfl, i + 1, by omega, by omega, ?_, rfl⟩, by ((try dsimp only); omega)⟩
      rw [take_next hil, reg_snoc, he]
  · rw [condd_neg hlt, hff]
    have : i = xs.length := by omega
    subst this
    rw [List.take_length]
    exact Ret.mk ⟨rfl, Ex.refl w⟩
theorem refSum_spec (p : Option Addr) (n c : Nat) (xs : List Int) (w : World) (hc : CellsO w p (v8 xs)) (hn : xs.length = n) (hl : n ≤ 9223372036854775806) (hb : ∀ x ∈ xs, 0 ≤ x ∧ x < 256) :
    stopcockref03_Sum.C p n c w (Ret fun v w' => v = .int .u32 (u (more 0#32 xs)) ∧ Ex w w') := by
  apply stopcockref03_Sum.ok
  unfold stopcockref03_Sum.main
  refine callP.use (refMore_spec 0#32 p n c xs w hc hn hl hb) ?_
  rintro _ w1 ⟨rfl, h1⟩
  try dsimp only [dI_i64, dI_u8, dI_u16, dI_u32, dB_bool, dS_slice, dP_ptr, dT_tup, dA_agg, dStr_str, dF_f, dC_c, dM_m, optP_some, ga0, ga1, ga2, ga3, ga4, cond_true, cond_false, chk_true, Bool.not_true, Bool.not_false, Option.isNone_none, Option.isNone_some, List.toList_toArray]
  exact Ret.mk ⟨rfl, h1⟩

def Bytes (xs : List Int) : Prop := ∀ x ∈ xs, 0 ≤ x ∧ x < 256
theorem Bytes.append {xs ys : List Int} (h : Bytes xs) (k : Bytes ys) : Bytes (xs ++ ys) := fun x hx => (List.mem_append.1 hx).elim (h x) (k x)
theorem Bytes.zeros (n : Nat) : Bytes (List.replicate n 0) := fun x hx => by rw [(List.mem_replicate.1 hx).2]; omega
theorem Bytes.take {xs : List Int} (h : Bytes xs) (n : Nat) : Bytes (xs.take n) := fun x hx => h x (List.mem_of_mem_take hx)
theorem Bytes.drop {xs : List Int} (h : Bytes xs) (n : Nat) : Bytes (xs.drop n) := fun x hx => h x (List.mem_of_mem_drop hx)
def pad (xs : List Int) : List Int := xs ++ List.replicate (60 - xs.length) 0
def sumB (r : Reg) : List Int := [u r / 16777216 % 256, u r / 65536 % 256, u r / 256 % 256, u r % 256]
def sealed (xs : List Int) : List Int := pad xs ++ sumB (more 0#32 (pad xs))
def cloE (xs : List Int) : Int := if 60 < xs.length then 6 else 0
def cloB (xs : List Int) : List Int := if 60 < xs.length then [] else sealed xs
def opnE (xs : List Int) : Int := if xs.length = 64 then (if cloB (xs.take 60) = xs then 0 else 2) else 6
def opnB (xs : List Int) : List Int := if xs.length = 64 then (if cloB (xs.take 60) = xs then xs.take 60 else []) else []
theorem pad_length {xs : List Int} (h : xs.length ≤ 60) : (pad xs).length = 60 := by simp [pad]; omega
theorem sumB_bytes (r : Reg) : Bytes (sumB r) := by
  intro x hx
  simp only [sumB, List.mem_cons, List.not_mem_nil, or_false] at hx
  rcases hx with rfl | rfl | rfl | rfl <;> exact ⟨Int.emod_nonneg _ (by omega), Int.emod_lt_of_pos _ (by omega)⟩
theorem pad_bytes {xs : List Int} (h : Bytes xs) : Bytes (pad xs) := h.append (Bytes.zeros _)
theorem seal_bytes {xs : List Int} (h : Bytes xs) : Bytes (sealed xs) := (pad_bytes h).append (sumB_bytes _)
theorem cloB_bytes {xs : List Int} (h : Bytes xs) : Bytes (cloB xs) := by
  unfold cloB
  split
  · intro x hx; cases hx
  · exact seal_bytes h
theorem opnB_bytes {xs : List Int} (h : Bytes xs) : Bytes (opnB xs) := by
  unfold opnB
  split
  · split
    · exact h.take 60
    · intro x hx; cases hx
  · intro x hx; cases hx
theorem sumB_u (r : Reg) : [Value.int .u8 (IntKind.u8.wrap (Int.fdiv (u r) (2 ^ (min 24 IntKind.u32.bits)))), Value.int .u8 (IntKind.u8.wrap (Int.fdiv (u r) (2 ^ (min 16 IntKind.u32.bits)))), Value.int .u8 (IntKind.u8.wrap (Int.fdiv (u r) (2 ^ (min 8 IntKind.u32.bits)))), Value.int .u8 (IntKind.u8.wrap (u r))] = v8 (sumB r) := by
  have e1 : (2 : Int) ^ (min 24 IntKind.u32.bits) = 16777216 := by decide
  have e2 : (2 : Int) ^ (min 16 IntKind.u32.bits) = 65536 := by decide
  have e3 : (2 : Int) ^ (min 8 IntKind.u32.bits) = 256 := by decide
  rw [e1, e2, e3, wu8, wu8, wu8, wu8, Int.fdiv_eq_ediv_of_nonneg _ (by omega), Int.fdiv_eq_ediv_of_nonneg _ (by omega), Int.fdiv_eq_ediv_of_nonneg _ (by omega)]
  rfl
theorem v8_one (xs : List Int) : ∀ y ∈ v8 xs, y.oneCell' = true := vals_one _ _
theorem v8_app (xs ys : List Int) : v8 xs ++ v8 ys = v8 (xs ++ ys) := by simp [v8]
theorem v8_len (xs : List Int) : (v8 xs).length = xs.length := by simp [v8]

theorem clone_spec (p : Option Addr) (n c : Nat) (xs : List Int) (w : World) (hc : CellsO w p (v8 xs)) (hn : xs.length = n) (hl : n ≤ 140737488355328) :
    bytes_Clone.C p n c w (Ret fun v w' => ∃ p' c', v = .slice p' n c' ∧ Owns w' w.heap.size ty_uint8 1 p' n c' (v8 xs) ∧ Ex w w') := by
  apply bytes_Clone.ok
  unfold bytes_Clone.main
  refine cond_of (fun h => ?_) (fun h => ?_)
  · cases p with
    | none =>
      have e : xs = [] := by have : v8 xs = [] := hc; simpa [v8] using this
      subst e
      obtain rfl : n = 0 := by simpa using hn.symm
      exact Ret.mk ⟨none, 0, rfl, Owns.nil _ _ _ _, Ex.refl w⟩
    | some a => cases h
  · rintro b w1 rfl rfl
    refine appP_own (B := w.heap.size) (Owns.alloc (w := w) [] 5 1 0 rfl) (Ex.alloc w _).size (v8 xs) (hc.ex (Ex.alloc w _)) (by rw [v8_len]; omega) (v8_one _) rfl (by omega) (by omega) ?_
    intro p2 c2 w2 ho2 hk2
    have hex : Ex w w2 := Kp.trans (Ex.alloc w _) hk2 (fun _ _ h => h) (fun i hi ⟨a, ha, hai⟩ => by cases ha; dsimp only at hai; omega)
    rw [Nat.zero_add] at ho2
    rw [Nat.zero_add]
    exact Ret.mk ⟨p2, c2, rfl, ho2, hex⟩
theorem Equal_spec (p : Option Addr) (n c : Nat) (q : Option Addr) (m d : Nat) (xs ys : List Int) (w : World) (hc : CellsO w p (v8 xs)) (hn : xs.length = n) (hd : CellsO w q (v8 ys)) (hm : ys.length = m) (hb : Bytes xs) (hb' : Bytes ys) :
    bytes_Equal.C p n c q m d w (Ret fun v w' => v = .bool (decide (xs = ys)) ∧ Ex w w') := by
  apply bytes_Equal.ok
  unfold bytes_Equal.main
  refine ⟨xs, hn, hc, ys, hm, hd, Ret.mk ⟨?_, Ex.refl w⟩⟩
  rw [strOf_eq hb hb']

theorem Close_spec (p : Option Addr) (n c : Nat) (xs : List Int) (w : World) (hc : CellsO w p (v8 xs)) (hn : xs.length = n) (hb : Bytes xs) :
    seal_Close.C p n c w (Ret fun v w' => ∃ p' n' c', v = .tuple #[.slice p' n' c', .int .i64 (cloE xs)] ∧ n' ≤ 64 ∧ Owns w' w.heap.size ty_uint8 1 p' n' c' (v8 (cloB xs)) ∧ Ex w w') := by
  apply seal_Close.ok
  unfold seal_Close.main
  by_cases h60 : (n : Int) > 60
  · rw [condd_pos h60]
    have e : 60 < xs.length := by omega
    refine Ret.mk ⟨none, 0, 0, by rw [cloE, if_pos e], by omega, ?_, Ex.refl w⟩
    rw [cloB, if_pos e]
    exact Owns.nil _ _ _ _
  · rw [condd_neg h60]
    have e : ¬ 60 < xs.length := by omega
    rintro b w1 rfl rfl
    rw [madeCells_int]
    have ho1 : Owns (w.alloc (.cells ((List.replicate (64 * 1) (0 : Int)).map (Value.int .u8)).toArray 5)) w.heap.size ty_uint8 1 (some ⟨w.heap.size, 0, none⟩) 60 64 (v8 (List.replicate 60 0)) := by
      have := Owns.made (w := w) (e := ty_uint8) (sz := 1) (n := 60) (c := 64) (cur := ((List.replicate (64 * 1) (0 : Int)).map (Value.int .u8)).toArray) (fr := (0, 0)) (by omega) (by simp) (Loose.zero _)
      have e2 : ((List.replicate (64 * 1) (0 : Int)).map (Value.int .u8)).toArray.toList.take (60 * 1) = v8 (List.replicate 60 0) := by
        rw [List.toList_toArray, ← List.map_take, List.take_replicate]
        rfl
      rw [e2] at this
      exact this
    refine copyP_own ho1 (hc.ex (Ex.alloc w _)) (by rw [v8_len]; exact hn) (by omega) (v8_one _) ?_
    intro w2 ho2 hk2
    have e3 : v8 xs ++ (v8 (List.replicate 60 0)).drop n = v8 (pad xs) := by
      rw [v8, v8, ← List.map_drop, List.drop_replicate, ← List.map_append, pad, hn]
      rfl
    rw [e3] at ho2
    have h2 : Ex w w2 := Kp.trans (Ex.alloc w _) hk2 (fun _ _ h => h) (fun i hi ⟨a, ha, hai⟩ => by cases ha; dsimp only at hai; omega)
    refine callP.use (Sum_spec _ 60 64 (pad xs) w2 ho2.cells (pad_length (by omega)) (by omega) (pad_bytes hb)) ?_
    rintro _ w3 ⟨rfl, h3⟩
    try dsimp only [dI_i64, dI_u8, dI_u16, dI_u32, dB_bool, dS_slice, dP_ptr, dT_tup, dA_agg, dStr_str, dF_f, dC_c, dM_m, optP_some, ga0, ga1, ga2, ga3, ga4, cond_true, cond_false, chk_true, Bool.not_true, Bool.not_false, Option.isNone_none, Option.isNone_some, List.toList_toArray]
    rintro b2 w4 rfl rfl
    have hs := sumB_u (more 0#32 (pad xs))
    have h4 : Ex w2 (w3.alloc (.cells #[Value.int .u8 (IntKind.u8.wrap (Int.fdiv (u (more 0#32 (pad xs))) (2 ^ (min 24 IntKind.u32.bits)))), Value.int .u8 (IntKind.u8.wrap (Int.fdiv (u (more 0#32 (pad xs))) (2 ^ (min 16 IntKind.u32.bits)))), Value.int .u8 (IntKind.u8.wrap (Int.fdiv (u (more 0#32 (pad xs))) (2 ^ (min 8 IntKind.u32.bits)))), Value.int .u8 (IntKind.u8.wrap (u (more 0#32 (pad xs))))] 5)) := h3.trans (Ex.alloc _ _)
    refine appP_own (B := w.heap.size) (ho2.ex h4) (h2.trans h4).size (v8 (sumB (more 0#32 (pad xs)))) ?_ (by rw [v8_len]; rfl) (v8_one _) rfl (by omega) (by omega) ?_
    · rw [← hs]
      exact CellsO.alloc _ _
    intro p5 c5 w5 ho5 hk5
    have h5 : Ex w w5 := Kp.trans (h2.trans h4) hk5 (fun _ _ h => h) (fun i hi ⟨a, ha, hai⟩ => by cases ha; dsimp only at hai; omega)
    refine Ret.mk ⟨p5, 60 + 4, c5, by rw [cloE, if_neg e], by omega, ?_, h5⟩
    rw [cloB, if_neg e, sealed, ← v8_app]
    exact ho5
theorem cloB_length {xs : List Int} {p : Option Addr} {n c : Nat} {w : World} {B : Nat} (h : Owns w B ty_uint8 1 p n c (v8 (cloB xs))) : (cloB xs).length = n := by
  have := h.1
  rw [v8_len, Nat.mul_one] at this
  exact this
theorem own_len {xs : List Int} {p : Option Addr} {n c : Nat} {w : World} {B : Nat} {e : TypeId} (h : Owns w B e 1 p n c (v8 xs)) : xs.length = n := by
  have := h.1
  rw [v8_len, Nat.mul_one] at this
  exact this
theorem Open_spec (p : Option Addr) (n c : Nat) (xs : List Int) (w : World) (hc : CellsO w p (v8 xs)) (hn : xs.length = n) (hcap : n ≤ c) (hb : Bytes xs) :
    seal_Open.C p n c w (Ret fun v w' => ∃ p' n' c', v = .tuple #[.slice p' n' c', .int .i64 (opnE xs)] ∧ n' ≤ 60 ∧ Owns w' w.heap.size ty_uint8 1 p' n' c' (v8 (opnB xs)) ∧ Ex w w') := by
  apply seal_Open.ok
  unfold seal_Open.main
  by_cases h64 : n = 64
  · subst h64
    rw [cond_neg (by decide)]
    have hcs : CellsO w (slA p c 0 1) (v8 (xs.take 60)) := by
      have := CellsO.slice hc c 0 60 (by rw [v8_len]; omega)
      rw [List.drop_zero, v8, ← List.map_take] at this
      exact this
    refine chkd_of (by omega) ?_
    refine callP.use (Close_spec _ 60 c (xs.take 60) w hcs (by simp; omega) (hb.take 60)) ?_
    rintro _ w1 ⟨p1, n1, c1, rfl, hn1, ho1, h1⟩
    try dsimp only [dI_i64, dI_u8, dI_u16, dI_u32, dB_bool, dS_slice, dP_ptr, dT_tup, dA_agg, dStr_str, dF_f, dC_c, dM_m, optP_some, ga0, ga1, ga2, ga3, ga4, cond_true, cond_false, chk_true, Bool.not_true, Bool.not_false, Option.isNone_none, Option.isNone_some, List.toList_toArray]
    refine callP.use (Equal_spec p1 n1 c1 p 64 c _ xs w1 ho1.cells (own_len ho1) (hc.ex h1) hn (cloB_bytes (hb.take 60)) hb) ?_
    rintro _ w2 ⟨rfl, h2⟩
    try dsimp only [dI_i64, dI_u8, dI_u16, dI_u32, dB_bool, dS_slice, dP_ptr, dT_tup, dA_agg, dStr_str, dF_f, dC_c, dM_m, optP_some, ga0, ga1, ga2, ga3, ga4, cond_true, cond_false, chk_true, Bool.not_true, Bool.not_false, Option.isNone_none, Option.isNone_some, List.toList_toArray]
    by_cases he : cloB (xs.take 60) = xs
    · rw [cond_neg (by simp [he])]
      refine chkd_of (by omega) ?_
      refine callP.use (clone_spec _ 60 c (xs.take 60) w2 (hcs.ex (h1.trans h2)) (by simp; omega) (by omega)) ?_
      rintro _ w3 ⟨p3, c3, rfl, ho3, h3⟩
      try dsimp only [dI_i64, dI_u8, dI_u16, dI_u32, dB_bool, dS_slice, dP_ptr, dT_tup, dA_agg, dStr_str, dF_f, dC_c, dM_m, optP_some, ga0, ga1, ga2, ga3, ga4, cond_true, cond_false, chk_true, Bool.not_true, Bool.not_false, Option.isNone_none, Option.isNone_some, List.toList_toArray]
      refine Ret.mk ⟨p3, 60, c3, by rw [opnE, if_pos hn, if_pos he], by omega, ?_, (h1.trans h2).trans h3⟩
      rw [opnB, if_pos hn, if_pos he]
      exact ho3.lower (h1.trans h2).size
    · rw [cond_pos (by simp [he])]
      refine Ret.mk ⟨none, 0, 0, by rw [opnE, if_pos hn, if_neg he], by omega, ?_, h1.trans h2⟩
      rw [opnB, if_pos hn, if_neg he]
      exact Owns.nil _ _ _ _
  · rw [cond_pos (by simp; omega)]
    have h64' : ¬ xs.length = 64 := by omega
    refine Ret.mk ⟨none, 0, 0, by rw [opnE, if_neg h64'], by omega, ?_, Ex.refl w⟩
    rw [opnB, if_neg h64']
    exact Owns.nil _ _ _ _

theorem sealed_length {xs : List Int} (h : xs.length ≤ 60) : (sealed xs).length = 64 := by
  simp only [sealed, List.length_append, pad_length h]; rfl
theorem sealed_take {xs : List Int} (h : xs.length ≤ 60) : (sealed xs).take 60 = pad xs := by
  rw [sealed, List.take_left' (pad_length h)]
theorem pad_pad {xs : List Int} (h : xs.length ≤ 60) : pad (pad xs) = pad xs := by
  have e : pad (pad xs) = pad xs ++ List.replicate (60 - (pad xs).length) 0 := rfl
  rw [e, pad_length h]
  simp
theorem cloB_le {xs : List Int} (h : xs.length ≤ 60) : cloB xs = sealed xs := by rw [cloB, if_neg (by omega)]
theorem cloB_back {xs : List Int} (h : xs.length ≤ 60) : cloB ((sealed xs).take 60) = sealed xs := by
  have h1 := pad_length h
  rw [sealed_take h, cloB_le (by omega), sealed, pad_pad h]
  rfl
theorem opn_sealed {xs : List Int} (h : xs.length ≤ 60) : opnE (sealed xs) = 0 ∧ opnB (sealed xs) = pad xs := by
  rw [opnE, opnB, if_pos (sealed_length h), if_pos (sealed_length h), if_pos (cloB_back h), if_pos (cloB_back h), sealed_take h]
  exact ⟨rfl, rfl⟩

theorem refClose_spec (p : Option Addr) (n c : Nat) (xs : List Int) (w : World) (hc : CellsO w p (v8 xs)) (hn : xs.length = n) (hb : Bytes xs) :
    stopcockref03_Close.C p n c w (Ret fun v w' => ∃ p' n' c', v = .tuple #[.slice p' n' c', .int .i64 (cloE xs)] ∧ n' ≤ 64 ∧ Owns w' w.heap.size ty_uint8 1 p' n' c' (v8 (cloB xs)) ∧ Ex w w') := by
  apply stopcockref03_Close.ok
  unfold stopcockref03_Close.main
  by_cases h60 : (n : Int) > 60
  · rw [condd_pos h60]
    have e : 60 < xs.length := by omega
    refine Ret.mk ⟨none, 0, 0, by rw [cloE, if_pos e], by omega, ?_, Ex.refl w⟩
    rw [cloB, if_pos e]
    exact Owns.nil _ _ _ _
  rw [condd_neg h60]
  have e : ¬ 60 < xs.length := by omega
  rintro b w1 rfl rfl
  refine appP_own (B := w.heap.size) (Owns.alloc (w := w) [] 5 1 0 rfl) (Ex.alloc w _).size (v8 xs) (hc.ex (Ex.alloc w _)) (by rw [v8_len]; omega) (v8_one _) rfl (by omega) (by omega) ?_
  intro p2 c2 w2 ho2 hk2
  have h2 : Ex w w2 := Kp.trans (Ex.alloc w _) hk2 (fun _ _ h => h) (fun i hi ⟨a, ha, hai⟩ => by cases ha; dsimp only at hai; omega)
  unfold stopcockref03_Close.l1
  refine ⟨fun q m d w3 => n ≤ m ∧ m ≤ 60 ∧ Owns w3 w.heap.size ty_uint8 1 q m d (v8 (xs ++ List.replicate (m - n) 0)) ∧ Ex w w3, fun _ m _ _ => 60 - m, ⟨by omega, by omega, ?_, h2⟩, ?_⟩
  · rw [Nat.zero_add, Nat.sub_self]
    rw [Nat.zero_add] at ho2
    simpa using ho2
  rintro q m d w3 ⟨hnm, hm, ho, h3⟩
  unfold stopcockref03_Close.b1
  by_cases hlt : (m : Int) < 60
  · rw [condd_pos hlt]
    rintro b5 w4 rfl rfl
    refine appP_own (B := w.heap.size) (ho.ex (Ex.alloc w3 _)) (h3.trans (Ex.alloc w3 _)).size (v8 [0]) (CellsO.alloc _ _) rfl (v8_one _) rfl (by omega) (by omega) ?_
    intro p5 c5 w5 ho5 hk5
    have h5 : Ex w w5 := Kp.trans (h3.trans (Ex.alloc w3 _)) hk5 (fun _ _ h => h.elim) (fun i hi ⟨a, ha, hai⟩ => by have := (ho.ge ha).1; omega)
    refine ⟨⟨by omega, by omega, ?_, h5⟩, by ((try dsimp only); omega)⟩
    rw [v8_app, List.append_assoc] at ho5
    rw [show m + 1 - n = (m - n) + 1 by omega, List.replicate_succ']
    exact ho5
  · rw [condd_neg hlt]
    obtain rfl : m = 60 := by omega
    have ep : xs ++ List.replicate (60 - n) 0 = pad xs := by rw [pad, hn]
    rw [ep] at ho
    unfold stopcockref03_Close.k1
    refine callP.use (refSum_spec q 60 d (pad xs) w3 ho.cells (pad_length (by omega)) (by omega) (pad_bytes hb)) ?_
    rintro _ w4 ⟨rfl, h4⟩
    try dsimp only [dI_i64, dI_u8, dI_u16, dI_u32, dB_bool, dS_slice, dP_ptr, dT_tup, dA_agg, dStr_str, dF_f, dC_c, dM_m, optP_some, ga0, ga1, ga2, ga3, ga4, cond_true, cond_false, chk_true, Bool.not_true, Bool.not_false, Option.isNone_none, Option.isNone_some, List.toList_toArray]
    rintro b5 w5 rfl rfl
    have hs := sumB_u (more 0#32 (pad xs))
    refine appP_own (B := w.heap.size) ((ho.ex h4).ex (Ex.alloc w4 _)) ((h3.trans h4).trans (Ex.alloc w4 _)).size (v8 (sumB (more 0#32 (pad xs)))) ?_ (by rw [v8_len]; rfl) (v8_one _) rfl (by omega) (by omega) ?_
    · rw [← hs]
      exact CellsO.alloc _ _
    intro p6 c6 w6 ho6 hk6
    have h6 : Ex w w6 := Kp.trans ((h3.trans h4).trans (Ex.alloc w4 _)) hk6 (fun _ _ h => h.elim) (fun i hi ⟨a, ha, hai⟩ => by have := (ho.ge ha).1; omega)
    refine Ret.mk ⟨p6, 60 + 4, c6, by rw [cloE, if_neg e], by omega, ?_, h6⟩
    rw [cloB, if_neg e, sealed, ← v8_app]
    exact ho6

theorem refOpen_spec (p : Option Addr) (n c : Nat) (xs : List Int) (w : World) (hc : CellsO w p (v8 xs)) (hn : xs.length = n) (hcap : n ≤ c) (hb : Bytes xs) :
    stopcockref03_Open.C p n c w (Ret fun v w' => ∃ p' n' c', v = .tuple #[.slice p' n' c', .int .i64 (opnE xs)] ∧ n' ≤ 60 ∧ Owns w' w.heap.size ty_uint8 1 p' n' c' (v8 (opnB xs)) ∧ Ex w w') := by
  apply stopcockref03_Open.ok
  unfold stopcockref03_Open.main
  by_cases h64 : n = 64
  · subst h64
    rw [cond_neg (by decide)]
    have hcs : CellsO w (slA p c 0 1) (v8 (xs.take 60)) := by
      have := CellsO.slice hc c 0 60 (by rw [v8_len]; omega)
      rw [List.drop_zero, v8, ← List.map_take] at this
      exact this
    refine chkd_of (by omega) ?_
    refine callP.use (refClose_spec _ 60 c (xs.take 60) w hcs (by simp; omega) (hb.take 60)) ?_
    rintro _ w1 ⟨p1, n1, c1, rfl, hn1, ho1, h1⟩
    try dsimp only [dI_i64, dI_u8, dI_u16, dI_u32, dB_bool, dS_slice, dP_ptr, dT_tup, dA_agg, dStr_str, dF_f, dC_c, dM_m, optP_some, ga0, ga1, ga2, ga3, ga4, cond_true, cond_false, chk_true, Bool.not_true, Bool.not_false, Option.isNone_none, Option.isNone_some, List.toList_toArray]
    refine ⟨cloB (xs.take 60), own_len ho1, ho1.cells, xs, hn, hc.ex h1, ?_⟩
    rw [strOf_eq (cloB_bytes (hb.take 60)) hb]
    by_cases he : cloB (xs.take 60) = xs
    · rw [cond_neg (by simp [he])]
      rintro b5 w2 rfl rfl
      refine chkd_of (by omega) ?_
      refine appP_own (B := w1.heap.size) (Owns.alloc (w := w1) [] 5 1 0 rfl) (Ex.alloc w1 _).size (v8 (xs.take 60)) ((hcs.ex h1).ex (Ex.alloc w1 _)) (by rw [v8_len]; simp; omega) (v8_one _) rfl (by omega) (by omega) ?_
      intro p3 c3 w3 ho3 hk3
      have h3 : Ex w1 w3 := Kp.trans (Ex.alloc w1 _) hk3 (fun _ _ h => h) (fun i hi ⟨a, ha, hai⟩ => by cases ha; dsimp only at hai; omega)
      refine Ret.mk ⟨p3, 0 + 60, c3, by rw [opnE, if_pos hn, if_pos he], by omega, ?_, h1.trans h3⟩
      rw [opnB, if_pos hn, if_pos he]
      exact ho3.lower h1.size
    · rw [cond_pos (by simp [he])]
      refine Ret.mk ⟨none, 0, 0, by rw [opnE, if_pos hn, if_neg he], by omega, ?_, h1⟩
      rw [opnB, if_pos hn, if_neg he]
      exact Owns.nil _ _ _ _
  · rw [cond_pos (by simp; omega)]
    have h64' : ¬ xs.length = 64 := by omega
    refine Ret.mk ⟨none, 0, 0, by rw [opnE, if_neg h64'], by omega, ?_, Ex.refl w⟩
    rw [opnB, if_neg h64']
    exact Owns.nil _ _ _ _

end Go.Proofs.Ythgmebhkbbehmaa.G

/-
  The law SealFinds: a sealed sector of which a burst of up to 32 bits is turned is none: the walk.
-/
import Derived.Test.YtikclgliegfocaaSealC
namespace Go.Proofs.Ytikclgliegfocaa.G
open Go.Dec Go.RowKit
set_option linter.unusedVariables false
set_option linter.unusedSimpArgs false

theorem stps_add (m n : Nat) (r : Reg) : stps (m + n) r = stps m (stps n r) := by
  induction m with
  | zero => rw [Nat.zero_add]; rfl
  | succ m ih => rw [Nat.succ_add]; show stp (stps (m + n) r) = stp (stps m (stps n r)); rw [ih]
theorem stps_zero (k : Nat) : stps k 0#32 = 0#32 := by
  induction k with
  | zero => rfl
  | succ k ih => show stp (stps k 0#32) = _; rw [ih]; decide
theorem stp_eq_zero {r : Reg} (h : stp r = 0#32) : r = 0#32 := by
  unfold stp at h
  cases hm : r.msb with
  | true =>
    rw [hm, if_pos rfl] at h
    have := congrArg (fun x : Reg => x.getLsbD 0) h
    simp [poly] at this
  | false =>
    rw [hm, if_neg (by decide), BitVec.xor_zero] at h
    have h1 := congrArg BitVec.toNat h
    rw [BitVec.toNat_shiftLeft, Nat.shiftLeft_eq] at h1
    have h2 := r.msb_eq_decide
    rw [hm] at h2
    have h3 : ¬ 2147483648 ≤ r.toNat := by simpa using h2.symm
    apply BitVec.eq_of_toNat_eq
    have h4 : (0#32).toNat = 0 := rfl
    rw [h4] at h1 ⊢
    omega
theorem stps_eq_zero : ∀ (k : Nat) {r : Reg}, stps k r = 0#32 → r = 0#32
  | 0, _, h => h
  | k + 1, r, h => stps_eq_zero k (stp_eq_zero h)
def wrd (a b c d : Int) : Reg := BitVec.ofInt 32 a <<< 24 ^^^ BitVec.ofInt 32 b <<< 16 ^^^ BitVec.ofInt 32 c <<< 8 ^^^ BitVec.ofInt 32 d
theorem st1 : ∀ b : Fin 256, stps 8 (BitVec.ofInt 32 (b.val : Int) <<< 16) = byt b.val := by decide +kernel
theorem st2 : ∀ b : Fin 256, stps 16 (BitVec.ofInt 32 (b.val : Int) <<< 8) = byt b.val := by decide +kernel
theorem st3 : ∀ b : Fin 256, stps 24 (BitVec.ofInt 32 (b.val : Int)) = byt b.val := by decide +kernel
theorem fin_of {x : Int} (h : 0 ≤ x ∧ x < 256) : ∃ b : Fin 256, x = (b.val : Int) := ⟨⟨x.toNat, by omega⟩, by show x = (x.toNat : Int); omega⟩
theorem reg4 (r : Reg) {a b c d : Int} (ha : 0 ≤ a ∧ a < 256) (hb : 0 ≤ b ∧ b < 256) (hc : 0 ≤ c ∧ c < 256) (hd : 0 ≤ d ∧ d < 256) : reg r [a, b, c, d] = stps 32 (r ^^^ wrd a b c d) := by
  obtain ⟨b, rfl⟩ := fin_of hb
  obtain ⟨c, rfl⟩ := fin_of hc
  obtain ⟨d, rfl⟩ := fin_of hd
  show stps 8 (stps 8 (stps 8 (stps 8 (r ^^^ byt a) ^^^ byt b.val) ^^^ byt c.val) ^^^ byt d.val) = _
  rw [← st1 b, ← st2 c, ← st3 d, ← stps_xor, ← stps_add, ← stps_xor, ← stps_add, ← stps_xor, ← stps_add]
  congr 1
  unfold wrd byt
  generalize BitVec.ofInt 32 a <<< 24 = A
  generalize BitVec.ofInt 32 (b.val : Int) <<< 16 = B
  generalize BitVec.ofInt 32 (c.val : Int) <<< 8 = C
  generalize BitVec.ofInt 32 (d.val : Int) = D
  simp only [BitVec.xor_assoc]
theorem ofInt_nat (n : Nat) : BitVec.ofInt 32 (n : Int) = BitVec.ofNat 32 n := by simp
theorem wrd_sum (s : Reg) : wrd (u s / 16777216 % 256) (u s / 65536 % 256) (u s / 256 % 256) (u s % 256) = s := by
  have e : ∀ k : Nat, BitVec.ofInt 32 (u s / ((2 ^ k : Nat) : Int) % 256) = BitVec.ofNat 32 (s.toNat / 2 ^ k % 2 ^ 8) := fun k => by
    have : u s / ((2 ^ k : Nat) : Int) % 256 = ((s.toNat / 2 ^ k % 2 ^ 8 : Nat) : Int) := by
      unfold u
      rw [Int.natCast_emod, Int.natCast_ediv]
      rfl
    rw [this]
    exact ofInt_nat _
  have e0 := e 0
  have e8 := e 8
  have e16 := e 16
  have e24 := e 24
  have z : u s / ((2 ^ 0 : Nat) : Int) = u s := by simp
  rw [z] at e0
  unfold wrd
  have n8 : ((2 ^ 8 : Nat) : Int) = 256 := by decide
  have n16 : ((2 ^ 16 : Nat) : Int) = 65536 := by decide
  have n24 : ((2 ^ 24 : Nat) : Int) = 16777216 := by decide
  rw [n8] at e8
  rw [n16] at e16
  rw [n24] at e24
  rw [e0, e8, e16, e24]
  apply BitVec.eq_of_getLsbD_eq
  intro i hi
  have hs : s.getLsbD i = s.toNat.testBit i := rfl
  simp only [BitVec.getLsbD_xor, BitVec.getLsbD_shiftLeft, BitVec.getLsbD_ofNat, Nat.testBit_mod_two_pow, Nat.testBit_div_two_pow, hs]
  by_cases h8 : i < 8
  · simp [h8, hi, show i < 16 by omega, show i < 24 by omega]
  · by_cases h16 : i < 16
    · have a1 : i - 8 < 8 := by omega
      have a2 : i - 8 + 8 = i := by omega
      simp [h8, h16, hi, a1, a2, show i < 24 by omega, show i - 8 < 32 by omega]
    · by_cases h24 : i < 24
      · have a1 : i - 16 < 8 := by omega
        have a2 : i - 16 + 16 = i := by omega
        simp [h8, h16, h24, hi, a1, a2, show ¬ i - 8 < 8 by omega, show i - 16 < 32 by omega]
      · have a1 : i - 24 < 8 := by omega
        have a2 : i - 24 + 24 = i := by omega
        simp [h8, h16, h24, hi, a1, a2, show ¬ i - 8 < 8 by omega, show ¬ i - 16 < 8 by omega, show i - 24 < 32 by omega]
theorem reg_app (r : Reg) (xs ys : List Int) : reg r (xs ++ ys) = reg (reg r xs) ys := by simp [reg]
theorem reg_sum (r s : Reg) : reg r (sumB s) = stps 32 (r ^^^ s) := by
  have h := sumB_bytes s
  unfold sumB at h ⊢
  rw [reg4 r (h _ (by simp)) (h _ (by simp)) (h _ (by simp)) (h _ (by simp)), wrd_sum]
theorem reg_zeros (r : Reg) : ∀ m : Nat, reg r (List.replicate m 0) = stps (8 * m) r
  | 0 => rfl
  | m + 1 => by
    rw [List.replicate_succ', reg_snoc, reg_zeros r m]
    have : byt 0 = 0#32 := by decide
    rw [this, BitVec.xor_zero, ← stps_add]
    congr 1
    omega
/-- whatever is sealed leaves one register -/
theorem reg_valid {xs : List Int} (h : xs.length = 64) (hv : cloB (xs.take 60) = xs) : reg (~~~0#32) xs = stps 32 (BitVec.allOnes 32) := by
  have hl : (xs.take 60).length = 60 := by simp; omega
  have e : xs = xs.take 60 ++ sumB (more 0#32 (xs.take 60)) := by
    have hp : pad (xs.take 60) = xs.take 60 := by
      have e : pad (xs.take 60) = xs.take 60 ++ List.replicate (60 - (xs.take 60).length) 0 := rfl
      rw [e, hl]; simp
    rw [cloB, if_neg (by omega), sealed, hp] at hv
    exact hv.symm
  rw [e, reg_app, reg_sum]
  congr 1
  unfold more
  generalize reg (~~~0#32) (xs.take 60) = r
  rw [← BitVec.allOnes_xor, show r ^^^ (BitVec.allOnes 32 ^^^ r) = BitVec.allOnes 32 ^^^ (r ^^^ r) by ac_rfl, BitVec.xor_self, BitVec.xor_zero]

/-! ### What is turned -/
def xb (x y : Int) : Int := IntKind.u8.wrap (BitVec.ofInt IntKind.u8.bits x ^^^ BitVec.ofInt IntKind.u8.bits y).toNat
theorem xb_nat (a b : Nat) (ha : a < 256) (hb : b < 256) : xb a b = ((a ^^^ b : Nat) : Int) := by
  have hab : a ^^^ b < 256 := Nat.xor_lt_two_pow (n := 8) ha hb
  have e : ∀ n : Nat, BitVec.ofInt 8 (n : Int) = BitVec.ofNat 8 n := fun n => by simp
  have h8 : IntKind.u8.bits = 8 := rfl
  unfold xb
  rw [wu8, h8, e a, e b, BitVec.toNat_xor, BitVec.toNat_ofNat, BitVec.toNat_ofNat, Nat.mod_eq_of_lt (by simpa using ha), Nat.mod_eq_of_lt (by simpa using hb)]
  omega
theorem xb_byte (x y : Int) : 0 ≤ xb x y ∧ xb x y < 256 := by
  unfold xb
  rw [wu8]
  exact ⟨Int.emod_nonneg _ (by omega), Int.emod_lt_of_pos _ (by omega)⟩
theorem xb_zero {x : Int} (h : 0 ≤ x ∧ x < 256) : xb x 0 = x := by
  obtain ⟨a, rfl⟩ : ∃ a : Nat, x = a := ⟨x.toNat, by omega⟩
  have := xb_nat a 0 (by omega) (by omega)
  simpa using this
theorem shl_xor' (x y : Reg) (k : Nat) : (x ^^^ y) <<< k = x <<< k ^^^ y <<< k := by
  apply BitVec.eq_of_getLsbD_eq
  intro i hi
  simp only [BitVec.getLsbD_shiftLeft, BitVec.getLsbD_xor]
  cases decide (i < 32) <;> cases decide (i < k) <;> simp
theorem byt2 {x y : Int} (hx : 0 ≤ x ∧ x < 256) (hy : 0 ≤ y ∧ y < 256) : byt (xb x y) = byt x ^^^ byt y := by
  obtain ⟨a, rfl⟩ : ∃ a : Nat, x = a := ⟨x.toNat, by omega⟩
  obtain ⟨b, rfl⟩ : ∃ a : Nat, y = a := ⟨y.toNat, by omega⟩
  rw [xb_nat a b (by omega) (by omega)]
  unfold byt
  rw [← shl_xor', ofInt_nat, ofInt_nat, ofInt_nat]
  congr 1
  apply BitVec.eq_of_toNat_eq
  simp [Nat.xor_mod_two_pow]
def zx : List Int → List Int → List Int
  | x :: xs, y :: ys => xb x y :: zx xs ys
  | _, _ => []
theorem zx_length : ∀ {xs ys : List Int}, xs.length = ys.length → (zx xs ys).length = xs.length
  | [], [], _ => rfl
  | x :: xs, y :: ys, h => by
    simp only [List.length_cons] at h
    simp only [zx, List.length_cons, zx_length (by omega : xs.length = ys.length)]
  | [], y :: ys, h => by simp at h
  | x :: xs, [], h => by simp at h
theorem zx_bytes : ∀ (xs ys : List Int), Bytes (zx xs ys)
  | x :: xs, y :: ys => fun a ha => by
    simp only [zx, List.mem_cons] at ha
    rcases ha with rfl | ha
    · exact xb_byte x y
    · exact zx_bytes xs ys a ha
  | [], _ => fun a ha => by simp [zx] at ha
  | x :: xs, [] => fun a ha => by simp [zx] at ha
theorem reg_cons (r : Reg) (x : Int) (xs : List Int) : reg r (x :: xs) = reg (stps 8 (r ^^^ byt x)) xs := rfl
theorem xor4 (a b c d : Reg) : (a ^^^ b) ^^^ (c ^^^ d) = (a ^^^ c) ^^^ (b ^^^ d) := by ac_rfl
theorem reg2 : ∀ {xs ys : List Int}, xs.length = ys.length → Bytes xs → Bytes ys → ∀ r s : Reg, reg (r ^^^ s) (zx xs ys) = reg r xs ^^^ reg s ys
  | [], [], _, _, _, r, s => rfl
  | x :: xs, y :: ys, h, hx, hy, r, s => by
    simp only [List.length_cons] at h
    rw [zx, reg_cons, reg_cons, reg_cons, byt2 (hx x (by simp)) (hy y (by simp)), xor4, stps_xor]
    exact reg2 (by omega) (fun a ha => hx a (by simp [ha])) (fun a ha => hy a (by simp [ha])) _ _
  | [], y :: ys, h, _, _, _, _ => by simp at h
  | x :: xs, [], h, _, _, _, _ => by simp at h
def dif (i : Nat) (t : Reg) : List Int := List.replicate i 0 ++ sumB t ++ List.replicate (60 - i) 0
theorem dif_length {i : Nat} (h : i ≤ 60) (t : Reg) : (dif i t).length = 64 := by
  have : (sumB t).length = 4 := rfl
  simp only [dif, List.length_append, List.length_replicate, this]
  omega
theorem dif_bytes (i : Nat) (t : Reg) : Bytes (dif i t) := ((Bytes.zeros i).append (sumB_bytes t)).append (Bytes.zeros _)
theorem dif_reg {i : Nat} {t : Reg} (h : reg 0#32 (dif i t) = 0#32) : t = 0#32 := by
  unfold dif at h
  rw [reg_app, reg_app, reg_zeros, reg_zeros, stps_zero, reg_sum, BitVec.zero_xor] at h
  exact stps_eq_zero 32 (stps_eq_zero _ h)
/-- the law in plain words -/
theorem found {X : List Int} (hX : X.length = 64) (hb : Bytes X) (hv : cloB (X.take 60) = X) {i : Nat} (hi : i ≤ 60) {t : Reg} (ht : t ≠ 0#32) : opnE (zx X (dif i t)) = 2 := by
  have hl : X.length = (dif i t).length := by rw [hX, dif_length hi]
  have hY : (zx X (dif i t)).length = 64 := by rw [zx_length hl, hX]
  rw [opnE, if_pos hY]
  by_cases he : cloB ((zx X (dif i t)).take 60) = zx X (dif i t)
  · exfalso
    have h1 := reg_valid hX hv
    have h2 := reg_valid hY he
    have h3 := reg2 hl hb (dif_bytes i t) (~~~0#32) 0#32
    rw [BitVec.xor_zero, h2, h1] at h3
    refine ht (dif_reg (i := i) ?_)
    have h4 := congrArg (fun x => stps 32 (BitVec.allOnes 32) ^^^ x) h3
    rw [← BitVec.xor_assoc, BitVec.xor_self, BitVec.zero_xor] at h4
    exact h4.symm
  · rw [if_neg he]

theorem getD_at (l : List Int) (d : Int) {m : Nat} (h : m < l.length) : l.getD m d = l[m] := by simp [List.getD, h]
def cur (X : List Int) (i : Nat) (T : List Int) (j : Nat) : List Int := (List.range 64).map fun m => if i ≤ m ∧ m < i + j then xb (X.getD m 0) (T.getD (m - i) 0) else X.getD m 0
theorem cur_length (X : List Int) (i : Nat) (T : List Int) (j : Nat) : (cur X i T j).length = 64 := by simp [cur]
theorem cur_get (X : List Int) (i : Nat) (T : List Int) (j m : Nat) (h : m < (cur X i T j).length) : (cur X i T j)[m] = if i ≤ m ∧ m < i + j then xb (X.getD m 0) (T.getD (m - i) 0) else X.getD m 0 := by simp [cur]
theorem cur_zero {X : List Int} (hX : X.length = 64) (i : Nat) (T : List Int) : cur X i T 0 = X := by
  apply List.ext_getElem
  · rw [cur_length, hX]
  · intro m h1 h2
    rw [cur_get, if_neg (by omega), getD_at _ _ h2]
theorem cur_succ {X : List Int} {i j : Nat} (T : List Int) : (cur X i T j).set (i + j) (xb (X.getD (i + j) 0) (T.getD j 0)) = cur X i T (j + 1) := by
  apply List.ext_getElem
  · simp [cur]
  · intro m h1 h2
    rw [List.getElem_set]
    by_cases e : i + j = m
    · subst e
      rw [if_pos rfl, cur_get, if_pos (by omega), Nat.add_sub_cancel_left]
    · rw [if_neg e, cur_get, cur_get]
      by_cases h3 : i ≤ m ∧ m < i + j
      · rw [if_pos h3, if_pos (by omega)]
      · rw [if_neg h3, if_neg (by omega)]
theorem zx_get : ∀ {xs ys : List Int} {m : Nat} (h : m < (zx xs ys).length) (hx : m < xs.length) (hy : m < ys.length), (zx xs ys)[m] = xb xs[m] ys[m]
  | x :: xs, y :: ys, 0, _, _, _ => rfl
  | x :: xs, y :: ys, m + 1, h, hx, hy => by
    simp only [zx, List.getElem_cons_succ]
    exact zx_get _ _ _
theorem cur_four {X : List Int} (hX : X.length = 64) (hb : Bytes X) {i : Nat} (hi : i ≤ 60) (t : Reg) : cur X i (sumB t) 4 = zx X (dif i t) := by
  have hl : X.length = (dif i t).length := by rw [hX, dif_length hi]
  apply List.ext_getElem
  · rw [cur_length, zx_length hl, hX]
  · intro m h1 h2
    have hm : m < X.length := by rw [zx_length hl] at h2; exact h2
    rw [cur_get, zx_get h2 hm (by omega), getD_at _ _ hm]
    have hs : (sumB t).length = 4 := rfl
    by_cases h3 : i ≤ m ∧ m < i + 4
    · rw [if_pos h3]
      congr 1
      simp only [dif]
      rw [List.getElem_append_left (by simp [hs]; omega), List.getElem_append_right (by simp; omega), getD_at _ _ (by omega)]
      simp
    · rw [if_neg h3]
      have e : (dif i t)[m]'(by omega) = 0 := by
        simp only [dif]
        by_cases h4 : m < i
        · rw [List.getElem_append_left (by simp [hs]; omega), List.getElem_append_left (by simpa using h4), List.getElem_replicate]
        · rw [List.getElem_append_right (by simp [hs]; omega), List.getElem_replicate]
      rw [e, xb_zero (hb _ (List.getElem_mem _))]
theorem tbyte (t : Reg) (j : Nat) (hj : j < 4) : IntKind.u8.wrap (Int.fdiv (u t) (2 ^ (min (IntKind.i64.wrap (24 - IntKind.i64.wrap (8 * (j : Int)))).toNat IntKind.u32.bits))) = (sumB t).getD j 0 := by
  have e1 : (2 : Int) ^ (min (IntKind.i64.wrap (24 - IntKind.i64.wrap (8 * ((0 : Nat) : Int)))).toNat IntKind.u32.bits) = 16777216 := by decide
  have e2 : (2 : Int) ^ (min (IntKind.i64.wrap (24 - IntKind.i64.wrap (8 * ((1 : Nat) : Int)))).toNat IntKind.u32.bits) = 65536 := by decide
  have e3 : (2 : Int) ^ (min (IntKind.i64.wrap (24 - IntKind.i64.wrap (8 * ((2 : Nat) : Int)))).toNat IntKind.u32.bits) = 256 := by decide
  have e4 : (2 : Int) ^ (min (IntKind.i64.wrap (24 - IntKind.i64.wrap (8 * ((3 : Nat) : Int)))).toNat IntKind.u32.bits) = 1 := by decide
  rcases (by omega : j = 0 ∨ j = 1 ∨ j = 2 ∨ j = 3) with rfl | rfl | rfl | rfl
  · rw [e1, wu8, Int.fdiv_eq_ediv_of_nonneg _ (by omega)]; rfl
  · rw [e2, wu8, Int.fdiv_eq_ediv_of_nonneg _ (by omega)]; rfl
  · rw [e3, wu8, Int.fdiv_eq_ediv_of_nonneg _ (by omega)]; rfl
  · rw [e4, wu8, Int.fdiv_eq_ediv_of_nonneg _ (by omega), Int.ediv_one]; rfl

theorem SealFinds_row (p : Option Addr) (n c : Nat) (xs : List Int) (a s : Int) (w : World) (h : Ints .u8 w p n c xs) (hr : c * 1 ≤ 140737488351232) (ha : 0 ≤ a ∧ a < 256) (hs : 0 ≤ s ∧ s < 4294967296) :
    stopcocklaw03_SealFinds.C p n c a s w (Ret fun v w' => v = .bool true ∧ Ex w w') := by
  have hn := h.size
  have hb : Bytes xs := fun x hx => wf_u8' (h.wf x hx)
  obtain ⟨t, rfl⟩ : ∃ r : Reg, s = u r := ⟨BitVec.ofInt 32 s, (u_of hs.1 hs.2).symm⟩
  obtain ⟨i, hi, hi60⟩ : ∃ i : Nat, IntKind.i64.wrap (Int.tmod a 61) = i ∧ i ≤ 60 := by
    rw [Int.tmod_eq_emod_of_nonneg ha.1]
    have h0 := Int.emod_nonneg a (b := 61) (by omega)
    have h1 := Int.emod_lt_of_pos a (b := 61) (by omega)
    rw [w64 (by omega) (by omega)]
    exact ⟨(a % 61).toNat, by omega, by omega⟩
  apply stopcocklaw03_SealFinds.ok
  unfold stopcocklaw03_SealFinds.main
  rw [hi]
  refine callP.use (Close_spec p n c xs w h.cells hn hb) ?_
  rintro _ w1 ⟨p1, n1, c1, rfl, hn1, ho1, h1⟩
  try dsimp only [dI_i64, dI_u8, dI_u16, dI_u32, dB_bool, dS_slice, dP_ptr, dT_tup, dA_agg, dStr_str, dF_f, dC_c, dM_m, optP_some, ga0, ga1, ga2, ga3, ga4, cond_true, cond_false, chk_true, Bool.not_true, Bool.not_false, Option.isNone_none, Option.isNone_some]
  refine callP.use (awake_spec w1) ?_
  rintro _ w2 ⟨rfl, h2⟩
  have h02 := h1.trans h2
  have out : callP Try.prog 9 #[] w2 (fun v w' => dB v fun x => Ret (fun v w' => v = .bool true ∧ Ex w w') (.returned (Value.bool x)) w') (fun ch w' => Ret (fun v w' => v = .bool true ∧ Ex w w') (.panicked ch) w') := by
    refine callP.use (awake_spec w2) ?_
    rintro _ w8 ⟨rfl, h8⟩
    try dsimp only [dI_i64, dI_u8, dI_u16, dI_u32, dB_bool, dS_slice, dP_ptr, dT_tup, dA_agg, dStr_str, dF_f, dC_c, dM_m, optP_some, ga0, ga1, ga2, ga3, ga4, cond_true, cond_false, chk_true, Bool.not_true, Bool.not_false, Option.isNone_none, Option.isNone_some]
    exact Ret.mk ⟨rfl, h02.trans h8⟩
  try dsimp only [dI_i64, dI_u8, dI_u16, dI_u32, dB_bool, dS_slice, dP_ptr, dT_tup, dA_agg, dStr_str, dF_f, dC_c, dM_m, optP_some, ga0, ga1, ga2, ga3, ga4, cond_true, cond_false, chk_true, Bool.not_true, Bool.not_false, Option.isNone_none, Option.isNone_some]
  simp only [Bool.not_true, Bool.not_false, cond_true, cond_false]
  by_cases k1 : 60 < xs.length
  · rw [cond_pos (by rw [cloE, if_pos k1]; rfl)]
    exact out
  rw [cond_neg (by rw [cloE, if_neg k1]; rfl)]
  by_cases k2 : u t = 0
  · rw [cond_pos (by rw [k2]; rfl)]
    exact out
  rw [cond_neg (by simpa using k2)]
  rw [cloB_le (by omega)] at ho1
  have l1 := own_len ho1
  have l64 := sealed_length (xs := xs) (by omega)
  rw [l64] at l1
  subst l1
  have bX := seal_bytes hb
  obtain ⟨a1, rfl⟩ : ∃ a1, p1 = some a1 := by
    obtain ⟨x, hx, _⟩ := map_get ho1.cells (j := 0) (by omega)
    exact ⟨x, hx⟩
  unfold stopcocklaw03_SealFinds.l1
  refine ⟨fun t2 q m d i1 k w3 => u t = t2 ∧ some a1 = q ∧ 64 = m ∧ c1 = d ∧ (i : Int) = i1 ∧ ∃ j : Nat, k = j ∧ j ≤ 4 ∧ Own w3 w.heap.size ty_uint8 1 (some a1) 64 c1 (v8 (cur (sealed xs) i (sumB t) j)) ∧ Ex w w3,
    fun _ _ _ _ _ k _ => (4 - k).toNat, ⟨rfl, rfl, rfl, rfl, rfl, 0, rfl, by omega, by rw [cur_zero l64]; exact ho1.ex h2, h02⟩, ?_⟩
  rintro _ _ _ _ _ _ w3 ⟨rfl, rfl, rfl, rfl, rfl, j, rfl, hj, ho, h3⟩
  unfold stopcocklaw03_SealFinds.b1
  by_cases hlt : (j : Int) < 4
  · rw [condd_pos hlt]
    have eij : IntKind.i64.wrap ((i : Int) + (j : Int)) = ((i + j : Nat) : Int) := by rw [w64 (by omega) (by omega)]; omega
    rw [eij, tbyte t j (by omega)]
    refine chkd_of (by omega) (chkd_of (by omega) (optP_of rfl ?_))
    have ho' := ho.ex (Ex.drew w3)
    have hlt2 : i + j < (cur (sealed xs) i (sumB t) j).length := by rw [cur_length]; omega
    obtain ⟨a2, ha2, hcell⟩ := map_get ho'.cells hlt2
    cases ha2
    rw [cur_get, if_neg (by omega)] at hcell
    rw [Int.toNat_natCast]
    refine ⟨(sealed xs).getD (i + j) 0, by rw [Nat.mul_one]; exact hcell, ?_⟩
    have e8 : IntKind.i64.wrap (8 * (j : Int)) = 8 * j := w64 (by omega) (by omega)
    refine chkd_of (by rw [e8, w64 (by omega) (by omega)]; omega) (chkd_of (by omega) (chkd_of (by omega) (optP_of rfl ?_)))
    obtain ⟨s1, s2, s3, s4⟩ := Own.store ho' (j := i + j) (by omega) (.int .u8 (xb ((sealed xs).getD (i + j) 0) ((sumB t).getD j 0))) rfl
    refine ⟨s1, s2, fun w4 hw4 => ?_⟩
    have hw4 : w4 = w3.drew.setCell (a1.add ((i + j) * 1)) (.int .u8 (xb ((sealed xs).getD (i + j) 0) ((sumB t).getD j 0))) := hw4
    subst hw4
    rw [w64 (by omega) (by omega)]
    have hge := (ho.ge rfl).1
    refine ⟨⟨rfl, rfl, rfl, rfl, rfl, j + 1, by omega, by omega, ?_, Kp.trans (h3.trans (Ex.drew w3)) s4 (fun _ _ h => h) (fun i hi hii => by omega)⟩, by ((try dsimp only); omega)⟩
    rw [← cur_succ, v8, List.map_set]
    exact s3
  · rw [condd_neg hlt]
    obtain rfl : j = 4 := by omega
    rw [cur_four l64 bX hi60] at ho
    unfold stopcocklaw03_SealFinds.k1
    have lY : (zx (sealed xs) (dif i t)).length = 64 := by rw [zx_length (by rw [l64, dif_length hi60]), l64]
    refine callP.use (Open_spec (some a1) 64 c1 _ w3 ho.cells lY ho.2.1 (zx_bytes _ _)) ?_
    rintro _ w5 ⟨p5, n5, c5, rfl, hn5, ho5, h5⟩
    rw [found l64 bX (cloB_back (by omega)) hi60 (fun e => k2 (by rw [e]; rfl))]
    try dsimp only [dI_i64, dI_u8, dI_u16, dI_u32, dB_bool, dS_slice, dP_ptr, dT_tup, dA_agg, dStr_str, dF_f, dC_c, dM_m, optP_some, ga0, ga1, ga2, ga3, ga4, cond_true, cond_false, chk_true, Bool.not_true, Bool.not_false, Option.isNone_none, Option.isNone_some]
    exact Ret.mk ⟨rfl, h3.trans h5⟩
end Go.Proofs.Ytikclgliegfocaa.G

/-
  The laws SealBack, SealThree, SealPads: what was sealed is opened; sums of sums; bytes with 0 behind: the walks.
-/
import Derived.Test.YtikclgliegfocaaSealC
namespace Go.Proofs.Ytikclgliegfocaa.G
open Go.Dec Go.RowKit
set_option linter.unusedVariables false
set_option linter.unusedSimpArgs false

theorem reg_append (r : Reg) (xs ys : List Int) : reg r (xs ++ ys) = reg (reg r xs) ys := by simp [reg]
theorem more_append (s : Reg) (xs ys : List Int) : more (more s xs) ys = more s (xs ++ ys) := by
  simp only [more, BitVec.not_not, reg_append]

theorem SealBack_row (p : Option Addr) (n c : Nat) (xs : List Int) (q : Option Addr) (m d : Nat) (ys : List Int) (w : World) (h : Ints .u8 w p n c xs) (h' : Ints .u8 w q m d ys) (hbk : c + d ≤ 1048576) :
    stopcocklaw03_SealBack.C p n c q m d w (Ret fun v w' => v = .bool true ∧ Ex w w') := by
  have hroom := h.room
  have hroom' := h'.room
  have hn := h.size
  have hm := h'.size
  have hb : Bytes xs := fun x hx => wf_u8' (h.wf x hx)
  have hb' : Bytes ys := fun x hx => wf_u8' (h'.wf x hx)
  apply stopcocklaw03_SealBack.ok
  unfold stopcocklaw03_SealBack.main
  refine callP.use (Sum_spec p n c xs w h.cells hn (by omega) hb) ?_
  rintro _ w1 ⟨rfl, h1⟩
  try dsimp only [dI_i64, dI_u8, dI_u16, dI_u32, dB_bool, dS_slice, dP_ptr, dT_tup, dA_agg, dStr_str, dF_f, dC_c, dM_m, optP_some, ga0, ga1, ga2, ga3, ga4, cond_true, cond_false, chk_true, Bool.not_true, Bool.not_false, Option.isNone_none, Option.isNone_some]
  refine callP.use (More_spec _ q m d ys w1 (h'.cells.ex h1) hm (by omega) hb') ?_
  rintro _ w2 ⟨rfl, h2⟩
  try dsimp only [dI_i64, dI_u8, dI_u16, dI_u32, dB_bool, dS_slice, dP_ptr, dT_tup, dA_agg, dStr_str, dF_f, dC_c, dM_m, optP_some, ga0, ga1, ga2, ga3, ga4, cond_true, cond_false, chk_true, Bool.not_true, Bool.not_false, Option.isNone_none, Option.isNone_some]
  rintro b w3 rfl rfl
  have h3 : Ex w (w2.alloc (.cells #[] 5)) := (h1.trans h2).trans (Ex.alloc _ _)
  refine appP_own (B := w2.heap.size) (Own.alloc (w := w2) [] 5 1 0 rfl) (Ex.alloc w2 _).size (v8 xs) (h.cells.ex h3) (by rw [v8_len]; omega) (v8_one _) rfl (by omega) (by omega) ?_
  intro p4 c4 w4 ho4 hk4
  have h4 : Ex w w4 := Kp.trans h3 hk4 (fun _ _ h => h) (fun i hi ⟨a, ha, hai⟩ => by cases ha; have := (h1.trans h2).size; dsimp only at hai; omega)
  refine appP_own (B := w2.heap.size) ho4 (Nat.le_trans (Ex.alloc w2 _).size hk4.size) (v8 ys) (h'.cells.ex h4) (by rw [v8_len]; omega) (v8_one _) rfl (by omega) (by omega) ?_
  intro p5 c5 w5 ho5 hk5
  have h5 : Ex w w5 := Kp.trans h4 hk5 (fun _ _ h => h) (fun i hi ⟨a, ha, hai⟩ => by have := (ho4.ge ha).1; have := (h1.trans h2).size; omega)
  have hc5 : CellsO w5 p5 (v8 (xs ++ ys)) := by
    have := ho5.cells
    simpa [v8] using this
  refine callP.use (Sum_spec p5 _ c5 (xs ++ ys) w5 hc5 (by simp; omega) (by omega) (hb.append hb')) ?_
  rintro _ w6 ⟨rfl, h6⟩
  try dsimp only [dI_i64, dI_u8, dI_u16, dI_u32, dB_bool, dS_slice, dP_ptr, dT_tup, dA_agg, dStr_str, dF_f, dC_c, dM_m, optP_some, ga0, ga1, ga2, ga3, ga4, cond_true, cond_false, chk_true, Bool.not_true, Bool.not_false, Option.isNone_none, Option.isNone_some]
  rw [more_append, cond_neg (by simp)]
  have h06 : Ex w w6 := h5.trans h6
  refine callP.use (Close_spec p n c xs w6 (h.cells.ex h06) hn hb) ?_
  rintro _ w7 ⟨p7, n7, c7, rfl, hn7, ho7, h7⟩
  try dsimp only [dI_i64, dI_u8, dI_u16, dI_u32, dB_bool, dS_slice, dP_ptr, dT_tup, dA_agg, dStr_str, dF_f, dC_c, dM_m, optP_some, ga0, ga1, ga2, ga3, ga4, cond_true, cond_false, chk_true, Bool.not_true, Bool.not_false, Option.isNone_none, Option.isNone_some]
  have h07 := h06.trans h7
  by_cases h60 : 60 < xs.length
  · have e1 : cloE xs = 6 := by rw [cloE, if_pos h60]
    rw [e1, cond_pos (by decide)]
    refine callP.use (awake_spec w7) ?_
    rintro _ w8 ⟨rfl, h8⟩
    try dsimp only [dI_i64, dI_u8, dI_u16, dI_u32, dB_bool, dS_slice, dP_ptr, dT_tup, dA_agg, dStr_str, dF_f, dC_c, dM_m, optP_some, ga0, ga1, ga2, ga3, ga4, cond_true, cond_false, chk_true, Bool.not_true, Bool.not_false, Option.isNone_none, Option.isNone_some]
    rw [cond_pos (by decide)]
    exact Ret.mk ⟨by simp; omega, h07.trans h8⟩
  · have e1 : cloE xs = 0 := by rw [cloE, if_neg h60]
    rw [e1, cond_neg (by decide)]
    rw [cloB_le (by omega)] at ho7
    have l7 := own_len ho7
    rw [sealed_length (by omega)] at l7
    subst l7
    refine callP.use (Open_spec p7 64 c7 (sealed xs) w7 ho7.cells (sealed_length (by omega)) ho7.2.1 (seal_bytes hb)) ?_
    rintro _ w8 ⟨p8, n8, c8, rfl, hn8, ho8, h8⟩
    obtain ⟨e2, e3⟩ := opn_sealed (xs := xs) (by omega)
    rw [e3] at ho8
    rw [e2]
    have l8 := own_len ho8
    rw [pad_length (by omega)] at l8
    subst l8
    try dsimp only [dI_i64, dI_u8, dI_u16, dI_u32, dB_bool, dS_slice, dP_ptr, dT_tup, dA_agg, dStr_str, dF_f, dC_c, dM_m, optP_some, ga0, ga1, ga2, ga3, ga4, cond_true, cond_false, chk_true, Bool.not_true, Bool.not_false, Option.isNone_none, Option.isNone_some]
    have h08 := (h07.trans h8).trans (Ex.drew w8)
    refine callP.use (awake_spec w8.drew) ?_
    rintro _ w9 ⟨rfl, h9⟩
    try dsimp only [dI_i64, dI_u8, dI_u16, dI_u32, dB_bool, dS_slice, dP_ptr, dT_tup, dA_agg, dStr_str, dF_f, dC_c, dM_m, optP_some, ga0, ga1, ga2, ga3, ga4, cond_true, cond_false, chk_true, Bool.not_true, Bool.not_false, Option.isNone_none, Option.isNone_some]
    have h09 := h08.trans h9
    have hc9 : CellsO w9 p8 (v8 (pad xs)) := (ho8.cells.ex (Ex.drew w8)).ex h9
    rw [cond_neg (by decide), cond_neg (by decide), cond_neg (by decide)]
    refine chkd_of (by omega) (chkd_of (by have := ho8.2.1; omega) ?_)
    have hcs : CellsO w9 (slA p8 c8 0 1) (v8 xs) := by
      have := CellsO.slice hc9 c8 0 n (by rw [v8_len, pad_length (by omega)]; exact ho8.2.1)
      rw [List.drop_zero, v8, ← List.map_take, pad, List.take_left' hn] at this
      exact this
    refine ⟨xs, hn, hcs, xs, hn, h.cells.ex h09, ?_⟩
    rw [cond_neg (by simp)]
    unfold stopcocklaw03_SealBack.l1
    refine ⟨fun p1 n1 c1 i w1 => p8 = p1 ∧ 60 = n1 ∧ c8 = c1 ∧ (∃ j : Nat, i = j ∧ n ≤ j ∧ j ≤ 60) ∧ w9 = w1, fun _ _ _ i _ => (60 - i).toNat, ⟨rfl, rfl, rfl, ⟨n, rfl, by omega, by omega⟩, rfl⟩, ?_⟩
    rintro _ _ _ _ w1 ⟨rfl, rfl, rfl, ⟨j, rfl, hj, hj6⟩, rfl⟩
    unfold stopcocklaw03_SealBack.b1
    by_cases hlt : (j : Int) < 60
    · rw [condd_pos hlt]
      have hjl : j < (pad xs).length := by rw [pad_length (by omega)]; omega
      obtain ⟨a1, hp1, hcell⟩ := map_get hc9 hjl
      refine chkd_of (by omega) (chkd_of (by omega) (optP_of hp1 ?_))
      have e0 : (pad xs)[j] = 0 := by
        simp only [pad]
        rw [List.getElem_append_right (by omega), List.getElem_replicate]
      rw [e0] at hcell
      refine ⟨0, by simpa using hcell, ?_⟩
      rw [cond_neg (by decide), w64 (by omega) (by omega)]
      exact ⟨⟨rfl, rfl, rfl, ⟨j + 1, by omega, by omega, by omega⟩, rfl⟩, by ((try dsimp only); omega)⟩
    · rw [condd_neg hlt]
      exact Ret.mk ⟨rfl, h09⟩

/-! ### Three texts, added bit by bit -/
def xor3 (x y z : Int) : Int := IntKind.u8.wrap (BitVec.ofInt IntKind.u8.bits (IntKind.u8.wrap (BitVec.ofInt IntKind.u8.bits x ^^^ BitVec.ofInt IntKind.u8.bits y).toNat) ^^^ BitVec.ofInt IntKind.u8.bits z).toNat
theorem xor3_nat (a b c : Nat) (ha : a < 256) (hb : b < 256) (hc : c < 256) : xor3 a b c = ((a ^^^ b ^^^ c : Nat) : Int) := by
  have hab : a ^^^ b < 256 := Nat.xor_lt_two_pow (n := 8) ha hb
  have habc : a ^^^ b ^^^ c < 256 := Nat.xor_lt_two_pow (n := 8) hab hc
  have h8 : IntKind.u8.bits = 8 := rfl
  have e : ∀ n : Nat, n < 256 → BitVec.ofInt 8 (n : Int) = BitVec.ofNat 8 n := fun n _ => by simp
  unfold xor3
  rw [wu8, wu8, h8, e a ha, e b hb, e c hc]
  have e2 : ((BitVec.ofNat 8 a ^^^ BitVec.ofNat 8 b).toNat : Int) % 256 = ((a ^^^ b : Nat) : Int) := by
    rw [BitVec.toNat_xor, BitVec.toNat_ofNat, BitVec.toNat_ofNat, Nat.mod_eq_of_lt (by simpa using ha), Nat.mod_eq_of_lt (by simpa using hb)]
    omega
  rw [e2, e _ hab, BitVec.toNat_xor, BitVec.toNat_ofNat, BitVec.toNat_ofNat, Nat.mod_eq_of_lt (by simpa using hab), Nat.mod_eq_of_lt (by simpa using hc)]
  omega
theorem ofNat_xor32 (a b : Nat) : BitVec.ofNat 32 (a ^^^ b) = BitVec.ofNat 32 a ^^^ BitVec.ofNat 32 b := by
  apply BitVec.eq_of_toNat_eq
  simp [Nat.xor_mod_two_pow]
theorem shl_xor (x y : Reg) (k : Nat) : (x ^^^ y) <<< k = x <<< k ^^^ y <<< k := by
  apply BitVec.eq_of_getLsbD_eq
  intro i hi
  simp only [BitVec.getLsbD_shiftLeft, BitVec.getLsbD_xor]
  cases decide (i < 32) <;> cases decide (i < k) <;> simp
theorem byt3 {x y z : Int} (hx : 0 ≤ x ∧ x < 256) (hy : 0 ≤ y ∧ y < 256) (hz : 0 ≤ z ∧ z < 256) : byt (xor3 x y z) = byt x ^^^ byt y ^^^ byt z := by
  obtain ⟨a, rfl⟩ : ∃ a : Nat, x = a := ⟨x.toNat, by omega⟩
  obtain ⟨b, rfl⟩ : ∃ a : Nat, y = a := ⟨y.toNat, by omega⟩
  obtain ⟨c, rfl⟩ : ∃ a : Nat, z = a := ⟨z.toNat, by omega⟩
  rw [xor3_nat a b c (by omega) (by omega) (by omega)]
  unfold byt
  rw [← shl_xor, ← shl_xor]
  congr 1
  have e : ∀ n : Nat, BitVec.ofInt 32 (n : Int) = BitVec.ofNat 32 n := fun n => by simp
  rw [e, e, e, e, ofNat_xor32, ofNat_xor32]
def xr : List Int → List Int → List Int → List Int
  | x :: xs, y :: ys, z :: zs => xor3 x y z :: xr xs ys zs
  | _, _, _ => []
theorem xr_length : ∀ {xs ys zs : List Int} {n : Nat}, xs.length = n → ys.length = n → zs.length = n → (xr xs ys zs).length = n
  | [], [], [], n, h, _, _ => h
  | x :: xs, y :: ys, z :: zs, n, h, k, l => by
    simp only [List.length_cons] at h k l
    simp only [xr, List.length_cons]
    rw [xr_length (n := n - 1) (by omega) (by omega) (by omega)]
    omega
  | [], y :: ys, _, n, h, k, _ => by simp at h k; omega
  | x :: xs, [], _, n, h, k, _ => by simp at h k; omega
  | x :: xs, y :: ys, [], n, h, _, l => by simp at h l; omega
  | [], [], z :: zs, n, h, _, l => by simp at h l; omega
theorem xr_get : ∀ {xs ys zs : List Int} {i : Nat} (h : i < (xr xs ys zs).length) (hx : i < xs.length) (hy : i < ys.length) (hz : i < zs.length), (xr xs ys zs)[i] = xor3 xs[i] ys[i] zs[i]
  | x :: xs, y :: ys, z :: zs, 0, _, _, _, _ => rfl
  | x :: xs, y :: ys, z :: zs, i + 1, h, hx, hy, hz => by
    simp only [xr, List.getElem_cons_succ]
    exact xr_get _ _ _ _
theorem reg_cons (r : Reg) (x : Int) (xs : List Int) : reg r (x :: xs) = reg (stps 8 (r ^^^ byt x)) xs := rfl
theorem xor9 (a b c d e f : Reg) : (a ^^^ b ^^^ c) ^^^ (d ^^^ e ^^^ f) = (a ^^^ d) ^^^ (b ^^^ e) ^^^ (c ^^^ f) := by ac_rfl
theorem reg3 : ∀ {xs ys zs : List Int}, xs.length = ys.length → xs.length = zs.length → Bytes xs → Bytes ys → Bytes zs → ∀ r s t : Reg, reg (r ^^^ s ^^^ t) (xr xs ys zs) = reg r xs ^^^ reg s ys ^^^ reg t zs
  | [], [], [], _, _, _, _, _, r, s, t => rfl
  | x :: xs, y :: ys, z :: zs, h, k, hx, hy, hz, r, s, t => by
    simp only [List.length_cons] at h k
    rw [xr, reg_cons, reg_cons, reg_cons, reg_cons, byt3 (hx x (by simp)) (hy y (by simp)) (hz z (by simp)), xor9, stps_xor, stps_xor]
    exact reg3 (by omega) (by omega) (fun a ha => hx a (by simp [ha])) (fun a ha => hy a (by simp [ha])) (fun a ha => hz a (by simp [ha])) _ _ _
  | [], y :: ys, _, h, _, _, _, _, _, _, _ => by simp at h
  | x :: xs, [], _, h, _, _, _, _, _, _, _ => by simp at h
  | x :: xs, y :: ys, [], _, k, _, _, _, _, _, _ => by simp at k
  | [], [], z :: zs, _, k, _, _, _, _, _, _ => by simp at k
theorem more3 {xs ys zs : List Int} (h : xs.length = ys.length) (k : xs.length = zs.length) (hx : Bytes xs) (hy : Bytes ys) (hz : Bytes zs) : more 0#32 (xr xs ys zs) = more 0#32 xs ^^^ more 0#32 ys ^^^ more 0#32 zs := by
  have e : (~~~(0#32) : Reg) = ~~~(0#32) ^^^ ~~~(0#32) ^^^ ~~~(0#32) := by decide
  have n3 : ∀ a b c : Reg, ~~~(a ^^^ b ^^^ c) = ~~~a ^^^ ~~~b ^^^ ~~~c := fun a b c => by
    rw [← BitVec.allOnes_xor, ← BitVec.allOnes_xor (x := a), ← BitVec.allOnes_xor (x := b), ← BitVec.allOnes_xor (x := c)]
    have : (BitVec.allOnes 32 ^^^ a) ^^^ (BitVec.allOnes 32 ^^^ b) = a ^^^ b := by
      rw [show (BitVec.allOnes 32 ^^^ a) ^^^ (BitVec.allOnes 32 ^^^ b) = (BitVec.allOnes 32 ^^^ BitVec.allOnes 32) ^^^ (a ^^^ b) by ac_rfl, BitVec.xor_self, BitVec.zero_xor]
    rw [this]
    ac_rfl
  unfold more
  conv => lhs; rw [e]
  rw [reg3 h k hx hy hz, n3]

theorem SealThree_row (p : Option Addr) (n c : Nat) (xs : List Int) (q : Option Addr) (n' c' : Nat) (ys : List Int) (t : Option Addr) (n'' c'' : Nat) (zs : List Int) (w : World) (h : Ints .u8 w p n c xs) (hr : c * 1 ≤ 140737488351232) (h' : Ints .u8 w q n' c' ys) (hr' : c' * 1 ≤ 140737488351232) (h'' : Ints .u8 w t n'' c'' zs) (hr'' : c'' * 1 ≤ 140737488351232) :
    stopcocklaw03_SealThree.C p n c q n' c' t n'' c'' w (Ret fun v w' => v = .bool true ∧ Ex w w') := by
  have hroom := h.room
  have hroom' := h'.room
  have hroom'' := h''.room
  have hx : Bytes xs := fun x hx => wf_u8' (h.wf x hx)
  have hy : Bytes ys := fun x hx => wf_u8' (h'.wf x hx)
  have hz : Bytes zs := fun x hx => wf_u8' (h''.wf x hx)
  have hnx := h.size
  have hny := h'.size
  have hnz := h''.size
  apply stopcocklaw03_SealThree.ok
  have key : ∀ N : Nat, N ≤ n → N ≤ n' → N ≤ n'' → stopcocklaw03_SealThree.k2 p n c q n' c' t n'' c'' (N : Int) w (Ret fun v w' => v = .bool true ∧ Ex w w') := by
    intro N k1 k2 k3
    unfold stopcocklaw03_SealThree.k2
    refine chkd_of (by omega) (chkd_of (by omega) (chkd_of (by omega) ?_))
    rintro b w1 rfl rfl
    rw [Int.toNat_natCast, madeCells_int, Nat.mul_one]
    have lx : (xs.take N).length = N := by simp; omega
    have ly : (ys.take N).length = N := by simp; omega
    have lz : (zs.take N).length = N := by simp; omega
    generalize hL : xr (xs.take N) (ys.take N) (zs.take N) = L
    have lL : L.length = N := by rw [← hL]; exact xr_length lx ly lz
    unfold stopcocklaw03_SealThree.l1
    refine ⟨fun p1 n1 c1 q1 m1 d1 t1 u1 v1 x a m d i w2 => p = p1 ∧ n = n1 ∧ c = c1 ∧ q = q1 ∧ n' = m1 ∧ c' = d1 ∧ t = t1 ∧ n'' = u1 ∧ c'' = v1 ∧ (N : Int) = x ∧ some ⟨w.heap.size, 0, none⟩ = a ∧ N = m ∧ N = d ∧ ∃ j : Nat, i = j ∧ j ≤ N ∧ Own w2 w.heap.size ty_uint8 1 (some ⟨w.heap.size, 0, none⟩) N N (v8 (L.take j ++ List.replicate (N - j) 0)) ∧ Ex w w2,
      fun _ _ _ _ _ _ _ _ _ _ _ _ _ i _ => (N - i).toNat, ⟨rfl, rfl, rfl, rfl, rfl, rfl, rfl, rfl, rfl, rfl, rfl, rfl, rfl, 0, rfl, by omega, ?_, Ex.alloc _ _⟩, ?_⟩
    · have := Own.alloc (w := w) ((List.replicate N (0 : Int)).map (Value.int .u8)) 5 1 N (by simp)
      simpa [v8] using this
    rintro _ _ _ _ _ _ _ _ _ _ _ _ _ _ w2 ⟨rfl, rfl, rfl, rfl, rfl, rfl, rfl, rfl, rfl, rfl, rfl, rfl, rfl, j, rfl, hj, ho, h2⟩
    unfold stopcocklaw03_SealThree.b1
    by_cases hlt : (j : Int) < N
    · rw [condd_pos hlt]
      have h2d := h2.trans (Ex.drew w2)
      obtain ⟨a1, hp1, hcell1⟩ := map_get (h.cells.ex h2d) (j := j) (by omega)
      obtain ⟨a2, hp2, hcell2⟩ := map_get (h'.cells.ex h2d) (j := j) (by omega)
      obtain ⟨a3, hp3, hcell3⟩ := map_get (h''.cells.ex h2d) (j := j) (by omega)
      refine chkd_of (by omega) (chkd_of (by omega) (optP_of hp1 ?_))
      refine ⟨xs[j], by simpa using hcell1, ?_⟩
      refine chkd_of (by omega) (chkd_of (by omega) (optP_of hp2 ?_))
      refine ⟨ys[j], by simpa using hcell2, ?_⟩
      refine chkd_of (by omega) (chkd_of (by omega) (optP_of hp3 ?_))
      refine ⟨zs[j], by simpa using hcell3, ?_⟩
      refine chkd_of (by omega) (chkd_of (by omega) (optP_of rfl ?_))
      have hst := Own.store (ho.ex (Ex.drew w2)) (j := j) (by omega) (.int .u8 (xor3 xs[j] ys[j] zs[j])) rfl
      obtain ⟨s1, s2, s3, s4⟩ := hst
      rw [Int.toNat_natCast]
      refine ⟨s1, s2, fun w3 hw3 => ?_⟩
      have hw3 : w3 = w2.drew.setCell ((⟨w.heap.size, 0, none⟩ : Addr).add (j * 1)) (.int .u8 (xor3 xs[j] ys[j] zs[j])) := hw3
      subst hw3
      rw [w64 (by omega) (by omega)]
      refine ⟨⟨rfl, rfl, rfl, rfl, rfl, rfl, rfl, rfl, rfl, rfl, rfl, rfl, rfl, j + 1, by omega, by omega, ?_, Kp.trans h2d s4 (fun _ _ h => h) (fun i hi hii => by dsimp only at hii; omega)⟩, by ((try dsimp only); omega)⟩
      have eL : L[j]'(by omega) = xor3 xs[j] ys[j] zs[j] := by
        subst hL
        rw [xr_get (i := j) (by omega) (by omega) (by omega) (by omega)]
        simp
      have e : (v8 (L.take j ++ List.replicate (N - j) 0)).set j (.int .u8 (xor3 xs[j] ys[j] zs[j])) = v8 (L.take (j + 1) ++ List.replicate (N - (j + 1)) 0) := by
        rw [← eL, v8, v8, ← List.map_set]
        congr 1
        rw [List.set_append_right _ _ (by simp; omega), take_next (by omega : j < L.length), show N - j = (N - (j + 1)) + 1 by omega, List.replicate_succ]
        have : j - (L.take j).length = 0 := by simp; omega
        rw [this, List.set_cons_zero, List.append_assoc]
        rfl
      rw [e] at s3
      exact s3
    · rw [condd_neg hlt]
      obtain rfl : j = N := by omega
      rw [Nat.sub_self, List.replicate_zero, List.append_nil, List.take_of_length_le (by omega)] at ho
      unfold stopcocklaw03_SealThree.k3
      refine callP.use (awake_spec w2.drew) ?_
      rintro _ w3 ⟨rfl, h3⟩
      try dsimp only [dI_i64, dI_u8, dI_u16, dI_u32, dB_bool, dS_slice, dP_ptr, dT_tup, dA_agg, dStr_str, dF_f, dC_c, dM_m, optP_some, ga0, ga1, ga2, ga3, ga4, cond_true, cond_false, chk_true, Bool.not_true, Bool.not_false, Option.isNone_none, Option.isNone_some]
      have h03 := (h2.trans (Ex.drew w2)).trans h3
      have sl : ∀ {a : Option Addr} {m : Nat} {vs : List Int} {w : World}, CellsO w a (v8 vs) → vs.length ≤ m → CellsO w (slA a m 0 1) (v8 (vs.take j)) := fun {a m vs w} hc hm => by
        have := CellsO.slice hc m 0 j (by rw [v8_len]; exact hm)
        rw [List.drop_zero, v8, ← List.map_take] at this
        exact this
      refine chkd_of (by omega) (chkd_of (by omega) (chkd_of (by omega) (chkd_of (by omega) (chkd_of (by omega) (chkd_of (by omega) ?_)))))
      have bL : Bytes L := by
        subst hL
        intro y hyL
        obtain ⟨i, hi, rfl⟩ := List.getElem_of_mem hyL
        rw [xr_get hi (by omega) (by omega) (by omega)]
        unfold xor3
        rw [wu8]
        exact ⟨Int.emod_nonneg _ (by omega), Int.emod_lt_of_pos _ (by omega)⟩
      rw [Int.toNat_natCast]
      refine callP.use (Sum_spec _ j j L w3 ((ho.cells.ex (Ex.drew w2)).ex h3) lL (by omega) bL) ?_
      rintro _ w4 ⟨rfl, h4⟩
      try dsimp only [dI_i64, dI_u8, dI_u16, dI_u32, dB_bool, dS_slice, dP_ptr, dT_tup, dA_agg, dStr_str, dF_f, dC_c, dM_m, optP_some, ga0, ga1, ga2, ga3, ga4, cond_true, cond_false, chk_true, Bool.not_true, Bool.not_false, Option.isNone_none, Option.isNone_some]
      have h04 := h03.trans h4
      refine callP.use (Sum_spec _ j c (xs.take j) w4 (sl (h.cells.ex h04) (by omega)) lx (by omega) (hx.take j)) ?_
      rintro _ w5 ⟨rfl, h5⟩
      try dsimp only [dI_i64, dI_u8, dI_u16, dI_u32, dB_bool, dS_slice, dP_ptr, dT_tup, dA_agg, dStr_str, dF_f, dC_c, dM_m, optP_some, ga0, ga1, ga2, ga3, ga4, cond_true, cond_false, chk_true, Bool.not_true, Bool.not_false, Option.isNone_none, Option.isNone_some]
      have h05 := h04.trans h5
      refine callP.use (Sum_spec _ j c' (ys.take j) w5 (sl (h'.cells.ex h05) (by omega)) ly (by omega) (hy.take j)) ?_
      rintro _ w6 ⟨rfl, h6⟩
      try dsimp only [dI_i64, dI_u8, dI_u16, dI_u32, dB_bool, dS_slice, dP_ptr, dT_tup, dA_agg, dStr_str, dF_f, dC_c, dM_m, optP_some, ga0, ga1, ga2, ga3, ga4, cond_true, cond_false, chk_true, Bool.not_true, Bool.not_false, Option.isNone_none, Option.isNone_some]
      have h06 := h05.trans h6
      refine callP.use (Sum_spec _ j c'' (zs.take j) w6 (sl (h''.cells.ex h06) (by omega)) lz (by omega) (hz.take j)) ?_
      rintro _ w7 ⟨rfl, h7⟩
      try dsimp only [dI_i64, dI_u8, dI_u16, dI_u32, dB_bool, dS_slice, dP_ptr, dT_tup, dA_agg, dStr_str, dF_f, dC_c, dM_m, optP_some, ga0, ga1, ga2, ga3, ga4, cond_true, cond_false, chk_true, Bool.not_true, Bool.not_false, Option.isNone_none, Option.isNone_some]
      refine Ret.mk ⟨?_, h06.trans h7⟩
      rw [xor_u, xor_u, ← hL, more3 (by omega) (by omega) (hx.take j) (hy.take j) (hz.take j)]
      simp
  unfold stopcocklaw03_SealThree.main
  have k1 : ∀ N : Nat, N ≤ n → N ≤ n' → stopcocklaw03_SealThree.k1 p n c q n' c' t n'' c'' (N : Int) w (Ret fun v w' => v = .bool true ∧ Ex w w') := by
    intro N k1 k2
    unfold stopcocklaw03_SealThree.k1
    refine cond_of (fun hd => ?_) (fun hd => ?_)
    · have := of_decide_eq_true hd
      exact key n'' (by omega) (by omega) (by omega)
    · have := of_decide_eq_false hd
      exact key N k1 k2 (by omega)
  refine cond_of (fun hd => ?_) (fun hd => ?_)
  · have := of_decide_eq_true hd
    exact k1 n' (by omega) (by omega)
  · have := of_decide_eq_false hd
    exact k1 n (by omega) (by omega)
end Go.Proofs.Ytikclgliegfocaa.G

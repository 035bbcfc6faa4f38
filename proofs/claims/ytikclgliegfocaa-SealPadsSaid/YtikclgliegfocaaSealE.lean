/-
  The law SealPads: bytes with some 0 behind are sealed as without them; unlike bytes are sealed unlike: the walk.
-/
import Derived.Test.YtikclgliegfocaaSealC
namespace Go.Proofs.Ytikclgliegfocaa.G
open Go.Dec Go.RowKit
set_option linter.unusedVariables false
set_option linter.unusedSimpArgs false

theorem zeroCells_int (k : IntKind) (n : Nat) : Builtin.zeroCells #[Value.int k 0] n = ((List.replicate n (0 : Int)).map (Value.int k)).toArray := by
  apply Array.ext
  · rw [size_zeroCells]; simp
  · intro i h1 h2
    simp [Builtin.zeroCells, Nat.mod_one]
theorem pad_zeros {xs : List Int} {k : Nat} (h : xs.length + k ≤ 60) : pad (xs ++ List.replicate k 0) = pad xs := by
  simp only [pad, List.append_assoc, List.length_append, List.length_replicate]
  rw [List.replicate_append_replicate]
  congr 2
  omega
theorem sealed_inj {xs ys : List Int} (h : xs.length ≤ 60) (k : ys.length ≤ 60) : sealed xs = sealed ys ↔ pad ys = pad xs := by
  constructor
  · intro e
    rw [← sealed_take h, ← sealed_take k, e]
  · intro e
    rw [sealed, sealed, e]

theorem SealPads_row (p : Option Addr) (n c : Nat) (xs : List Int) (q : Option Addr) (m d : Nat) (ys : List Int) (s : Int) (w : World) (h : Ints .u8 w p n c xs) (hr : c * 1 ≤ 140737488351232) (h' : Ints .u8 w q m d ys) (hr' : d * 1 ≤ 140737488351232) (hs : 0 ≤ s ∧ s < 256) :
    stopcocklaw03_SealPads.C p n c q m d s w (Ret fun v w' => v = .bool true ∧ Ex w w') := by
  have hroom := h.room
  have hn := h.size
  have hm := h'.size
  have hb : Bytes xs := fun x hx => wf_u8' (h.wf x hx)
  have hb' : Bytes ys := fun x hx => wf_u8' (h'.wf x hx)
  apply stopcocklaw03_SealPads.ok
  unfold stopcocklaw03_SealPads.main
  obtain ⟨k, hk, hk60⟩ : ∃ k : Nat, IntKind.i64.wrap (Int.tmod s 61) = k ∧ k ≤ 60 := by
    rw [Int.tmod_eq_emod_of_nonneg hs.1]
    have h0 := Int.emod_nonneg s (b := 61) (by omega)
    have h1 := Int.emod_lt_of_pos s (b := 61) (by omega)
    rw [w64 (by omega) (by omega)]
    exact ⟨(s % 61).toNat, by omega, by omega⟩
  rw [hk]
  refine callP.use (Close_spec p n c xs w h.cells hn hb) ?_
  rintro _ w1 ⟨p1, n1, c1, rfl, hn1, ho1, h1⟩
  try dsimp only [dI_i64, dI_u8, dI_u16, dI_u32, dB_bool, dS_slice, dP_ptr, dT_tup, dA_agg, dStr_str, dF_f, dC_c, dM_m, optP_some, ga0, ga1, ga2, ga3, ga4, cond_true, cond_false, chk_true, Bool.not_true, Bool.not_false, Option.isNone_none, Option.isNone_some]
  rintro b w2 rfl rfl
  have h2 : Ex w (w1.alloc (.cells #[] 5)) := h1.trans (Ex.alloc _ _)
  refine appP_own (B := w1.heap.size) (Own.alloc (w := w1) [] 5 1 0 rfl) (Ex.alloc w1 _).size (v8 xs) (h.cells.ex h2) (by rw [v8_len]; omega) (v8_one _) rfl (by omega) (by omega) ?_
  intro p3 c3 w3 ho3 hk3
  have h3 : Ex w1 w3 := Kp.trans (Ex.alloc w1 _) hk3 (fun _ _ h => h) (fun i hi ⟨a, ha, hai⟩ => by cases ha; dsimp only at hai; omega)
  refine chkd_of (by omega) ?_
  rw [Int.toNat_natCast]
  refine ⟨by omega, by omega, ?_⟩
  refine appP_own (B := w1.heap.size) ho3 h3.size (v8 (List.replicate k 0)) (by rw [zeroCells_int]; rfl) (by rw [v8_len]; simp) (v8_one _) rfl (by omega) (by omega) ?_
  intro p4 c4 w4 ho4 hk4
  have h4 : Ex w1 w4 := Kp.trans h3 hk4 (fun _ _ h => h) (fun i hi ⟨a, ha, hai⟩ => by have := (ho3.ge ha).1; omega)
  have hc4 : CellsO w4 p4 (v8 (xs ++ List.replicate k 0)) := by
    have := ho4.cells
    simpa [v8] using this
  refine callP.use (Close_spec p4 _ c4 (xs ++ List.replicate k 0) w4 hc4 (by simp; omega) (hb.append (Bytes.zeros k))) ?_
  rintro _ w5 ⟨p5, n5, c5, rfl, hn5, ho5, h5⟩
  try dsimp only [dI_i64, dI_u8, dI_u16, dI_u32, dB_bool, dS_slice, dP_ptr, dT_tup, dA_agg, dStr_str, dF_f, dC_c, dM_m, optP_some, ga0, ga1, ga2, ga3, ga4, cond_true, cond_false, chk_true, Bool.not_true, Bool.not_false, Option.isNone_none, Option.isNone_some]
  have h15 := h4.trans h5
  refine callP.use (Close_spec q m d ys w5 (h'.cells.ex (h1.trans h15)) hm hb') ?_
  rintro _ w6 ⟨p6, n6, c6, rfl, hn6, ho6, h6⟩
  try dsimp only [dI_i64, dI_u8, dI_u16, dI_u32, dB_bool, dS_slice, dP_ptr, dT_tup, dA_agg, dStr_str, dF_f, dC_c, dM_m, optP_some, ga0, ga1, ga2, ga3, ga4, cond_true, cond_false, chk_true, Bool.not_true, Bool.not_false, Option.isNone_none, Option.isNone_some]
  have h16 := h15.trans h6
  refine callP.use (awake_spec w6) ?_
  rintro _ w7 ⟨rfl, h7⟩
  have h17 := h16.trans h7
  have h07 : Ex w w7 := h1.trans h17
  have out : callP Try.prog 9 #[] w7 (fun v w' => dB v fun x => Ret (fun v w' => v = .bool true ∧ Ex w w') (.returned (Value.bool x)) w') (fun ch w' => Ret (fun v w' => v = .bool true ∧ Ex w w') (.panicked ch) w') := by
    refine callP.use (awake_spec w7) ?_
    rintro _ w8 ⟨rfl, h8⟩
    try dsimp only [dI_i64, dI_u8, dI_u16, dI_u32, dB_bool, dS_slice, dP_ptr, dT_tup, dA_agg, dStr_str, dF_f, dC_c, dM_m, optP_some, ga0, ga1, ga2, ga3, ga4, cond_true, cond_false, chk_true, Bool.not_true, Bool.not_false, Option.isNone_none, Option.isNone_some]
    exact Ret.mk ⟨rfl, h07.trans h8⟩
  try dsimp only [dI_i64, dI_u8, dI_u16, dI_u32, dB_bool, dS_slice, dP_ptr, dT_tup, dA_agg, dStr_str, dF_f, dC_c, dM_m, optP_some, ga0, ga1, ga2, ga3, ga4, cond_true, cond_false, chk_true, Bool.not_true, Bool.not_false, Option.isNone_none, Option.isNone_some]
  simp only [Bool.not_true, Bool.not_false, cond_true, cond_false]
  by_cases k1 : 60 < xs.length
  · rw [cond_pos (by rw [cloE, if_pos k1]; rfl)]
    exact out
  rw [cond_neg (by rw [cloE, if_neg k1]; rfl)]
  by_cases k2 : 60 < ys.length
  · rw [cond_pos (by rw [cloE, if_pos k2]; rfl)]
    exact out
  rw [cond_neg (by rw [cloE, if_neg k2]; rfl)]
  rw [cloB_le (by omega)] at ho1 ho6
  have ew : IntKind.i64.wrap ((n : Int) + (k : Int)) = ((n + k : Nat) : Int) := by rw [w64 (by omega) (by omega)]; omega
  rw [ew]
  have hc1 : CellsO w7 p1 (v8 (sealed xs)) := ho1.cells.ex h17
  have hc6 : CellsO w7 p6 (v8 (sealed ys)) := ho6.cells.ex h7
  have l1 := own_len ho1
  have l6 := own_len ho6
  have last : stopcocklaw03_SealPads.k1 p1 n1 c1 p6 n6 c6 w7 (Ret fun v w' => v = .bool true ∧ Ex w w') := by
    unfold stopcocklaw03_SealPads.k1
    obtain ⟨e1, e2⟩ := opn_sealed (xs := ys) (by omega)
    obtain ⟨e3, e4⟩ := opn_sealed (xs := xs) (by omega)
    refine callP.use (Open_spec p6 n6 c6 (sealed ys) w7 hc6 l6 ho6.2.1 (seal_bytes hb')) ?_
    rintro _ w8 ⟨p8, n8, c8, rfl, hn8, ho8, h8⟩
    rw [e2] at ho8
    rw [e1]
    try dsimp only [dI_i64, dI_u8, dI_u16, dI_u32, dB_bool, dS_slice, dP_ptr, dT_tup, dA_agg, dStr_str, dF_f, dC_c, dM_m, optP_some, ga0, ga1, ga2, ga3, ga4, cond_true, cond_false, chk_true, Bool.not_true, Bool.not_false, Option.isNone_none, Option.isNone_some]
    refine callP.use (Open_spec p1 n1 c1 (sealed xs) w8 (hc1.ex h8) l1 ho1.2.1 (seal_bytes hb)) ?_
    rintro _ w9 ⟨p9, n9, c9, rfl, hn9, ho9, h9⟩
    rw [e4] at ho9
    rw [e3]
    try dsimp only [dI_i64, dI_u8, dI_u16, dI_u32, dB_bool, dS_slice, dP_ptr, dT_tup, dA_agg, dStr_str, dF_f, dC_c, dM_m, optP_some, ga0, ga1, ga2, ga3, ga4, cond_true, cond_false, chk_true, Bool.not_true, Bool.not_false, Option.isNone_none, Option.isNone_some]
    rw [cond_pos (by decide), cond_pos (by decide)]
    refine ⟨pad ys, own_len ho8, ho8.cells.ex h9, pad xs, own_len ho9, ho9.cells, sealed xs, l1, (hc1.ex h8).ex h9, sealed ys, l6, (hc6.ex h8).ex h9, Ret.mk ⟨?_, (h07.trans h8).trans h9⟩⟩
    rw [strOf_eq (pad_bytes hb') (pad_bytes hb), strOf_eq (seal_bytes hb) (seal_bytes hb')]
    have := sealed_inj (xs := xs) (ys := ys) (by omega) (by omega)
    by_cases e : pad ys = pad xs
    · rw [decide_eq_true e, decide_eq_true (this.2 e)]; rfl
    · rw [decide_eq_false e, decide_eq_false (fun h => e (this.1 h))]; rfl
  by_cases k3 : 60 < (xs ++ List.replicate k 0).length
  · have e5 : cloE (xs ++ List.replicate k 0) = 6 := by rw [cloE, if_pos k3]
    have k4 : 60 < xs.length + k := by simpa using k3
    rw [e5, cond_neg (by decide)]
    rw [decide_eq_true (by omega : ((n + k : Nat) : Int) > 60), cond_neg (by decide)]
    exact last
  · have e5 : cloE (xs ++ List.replicate k 0) = 0 := by rw [cloE, if_neg k3]
    have k4 : xs.length + k ≤ 60 := by simpa using k3
    rw [e5, cond_pos (by decide)]
    rw [cloB_le (by omega), sealed, pad_zeros k4] at ho5
    refine ⟨sealed xs, l1, hc1, sealed xs, own_len ho5, (ho5.cells.ex h6).ex h7, ?_⟩
    rw [cond_neg (by simp), decide_eq_false (by omega : ¬ ((n + k : Nat) : Int) > 60), cond_neg (by decide)]
    exact last
end Go.Proofs.Ytikclgliegfocaa.G

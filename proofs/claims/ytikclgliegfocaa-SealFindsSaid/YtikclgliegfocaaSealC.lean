/-
  The document's Close and Open; the simplest facts; the laws SealSums and SealSectors: the walks.
-/
import Derived.Test.YtikclgliegfocaaSealB
namespace Go.Proofs.Ytikclgliegfocaa.G
open Go.Dec Go.RowKit
set_option linter.unusedVariables false
set_option linter.unusedSimpArgs false

theorem sealed_length {xs : List Int} (h : xs.length ≤ 60) : (sealed xs).length = 64 := by
  simp only [sealed, List.length_append, pad_length h]; rfl
theorem sealed_take {xs : List Int} (h : xs.length ≤ 60) : (sealed xs).take 60 = pad xs := by
  rw [sealed, List.take_left' (pad_length h)]
theorem pad_pad {xs : List Int} (h : xs.length ≤ 60) : pad (pad xs) = pad xs := by
  have e : pad (pad xs) = pad xs ++ List.replicate (60 - (pad xs).length) 0 := rfl
  rw [e, pad_length h]
  simp
theorem cloB_le {xs : List Int} (h : xs.length ≤ 60) : cloB xs = sealed xs := by rw [cloB, if_neg (by omega)]
theorem cloB_back {xs : List Int} (h : xs.length ≤ 60) : cloB ((sealed xs).take 60) = sealed xs := by
  have h1 := pad_length h
  rw [sealed_take h, cloB_le (by omega), sealed, pad_pad h]
  rfl
theorem opn_sealed {xs : List Int} (h : xs.length ≤ 60) : opnE (sealed xs) = 0 ∧ opnB (sealed xs) = pad xs := by
  rw [opnE, opnB, if_pos (sealed_length h), if_pos (sealed_length h), if_pos (cloB_back h), if_pos (cloB_back h), sealed_take h]
  exact ⟨rfl, rfl⟩

theorem awake_spec (w : World) : stopcocklaw03_awake.C w (Ret fun v w' => v = .bool true ∧ Ex w w') := by
  apply stopcocklaw03_awake.ok
  unfold stopcocklaw03_awake.main
  rintro b1 w1 rfl rfl
  have b2 : Bytes [97, 98] := by unfold Bytes; decide
  show markP (w.alloc (.cells (v8 [97, 98]).toArray 5)) ⟨w.heap.size, 0, none⟩ _
  refine markP_lit fun w2 h2 hc2 => ?_
  refine callP.use (Close_spec _ 2 2 [97, 98] w2 hc2 rfl b2) ?_
  rintro _ w3 ⟨p1, n1, c1, rfl, hn1, ho1, h3⟩
  rw [cloB_le (by decide)] at ho1
  have l1 := own_len ho1
  rw [sealed_length (by decide)] at l1
  subst l1
  try dsimp only [dI_i64, dI_u8, dI_u16, dI_u32, dB_bool, dS_slice, dP_ptr, dT_tup, dA_agg, dStr_str, dF_f, dC_c, dM_m, optP_some, ga0, ga1, ga2, ga3, ga4, cond_true, cond_false, chk_true, Bool.not_true, Bool.not_false, Option.isNone_none, Option.isNone_some]
  refine callP.use (Open_spec p1 64 c1 (sealed [97, 98]) w3 ho1.cells (sealed_length (by decide)) ho1.2.1 (seal_bytes b2)) ?_
  rintro _ w4 ⟨p2, n2, c2, rfl, hn2, ho2, h4⟩
  obtain ⟨e1, e2⟩ := opn_sealed (xs := [97, 98]) (by decide)
  rw [e2] at ho2
  rw [e1]
  have l2 := own_len ho2
  rw [pad_length (by decide)] at l2
  subst l2
  try dsimp only [dI_i64, dI_u8, dI_u16, dI_u32, dB_bool, dS_slice, dP_ptr, dT_tup, dA_agg, dStr_str, dF_f, dC_c, dM_m, optP_some, ga0, ga1, ga2, ga3, ga4, cond_true, cond_false, chk_true, Bool.not_true, Bool.not_false, Option.isNone_none, Option.isNone_some]
  rintro b5 w5 rfl rfl
  show markP (w4.alloc (.cells (v8 [49, 50, 51, 52, 53, 54, 55, 56, 57]).toArray 5)) ⟨w4.heap.size, 0, none⟩ _
  refine markP_lit fun w6 h6 hc6 => ?_
  refine callP.use (Sum_spec _ 9 9 [49, 50, 51, 52, 53, 54, 55, 56, 57] w6 hc6 rfl (by omega) (by decide)) ?_
  rintro _ w7 ⟨rfl, h7⟩
  have e3 : u (more 0#32 [49, 50, 51, 52, 53, 54, 55, 56, 57]) = 4236843288 := by decide +kernel
  rw [e3]
  try dsimp only [dI_i64, dI_u8, dI_u16, dI_u32, dB_bool, dS_slice, dP_ptr, dT_tup, dA_agg, dStr_str, dF_f, dC_c, dM_m, optP_some, ga0, ga1, ga2, ga3, ga4, cond_true, cond_false, chk_true, Bool.not_true, Bool.not_false, Option.isNone_none, Option.isNone_some]
  have e4 : cloE [97, 98] = 0 := by decide
  rw [e4, cond_pos (by decide), cond_pos (by decide), cond_pos (by decide), cond_pos (by decide), cond_pos (by decide)]
  refine chkd_of (by have := ho2.2.1; omega) ?_
  have hc7 : CellsO w7 (slA p2 c2 0 1) (v8 [97, 98]) := by
    have := CellsO.slice ((ho2.cells.ex h6).ex h7) c2 0 2 (by rw [v8_len, pad_length (by decide)]; exact ho2.2.1)
    rw [List.drop_zero, v8, ← List.map_take] at this
    exact this
  refine ⟨[97, 98], rfl, hc7, Ret.mk ⟨?_, (((h2.trans h3).trans h4).trans h6).trans h7⟩⟩
  rw [strOf_data, ByteArray.toList_eq]
  exact congrArg Value.bool (by decide)

theorem refClose_spec (p : Option Addr) (n c : Nat) (xs : List Int) (w : World) (hc : CellsO w p (v8 xs)) (hn : xs.length = n) (hb : Bytes xs) :
    stopcockref03_Close.C p n c w (Ret fun v w' => ∃ p' n' c', v = .tuple #[.slice p' n' c', .int .i64 (cloE xs)] ∧ n' ≤ 64 ∧ Own w' w.heap.size ty_uint8 1 p' n' c' (v8 (cloB xs)) ∧ Ex w w') := by
  apply stopcockref03_Close.ok
  unfold stopcockref03_Close.main
  by_cases h60 : (n : Int) > 60
  · rw [condd_pos h60]
    have e : 60 < xs.length := by omega
    refine Ret.mk ⟨none, 0, 0, by rw [cloE, if_pos e], by omega, ?_, Ex.refl w⟩
    rw [cloB, if_pos e]
    exact Own.nil _ _ _ _
  rw [condd_neg h60]
  have e : ¬ 60 < xs.length := by omega
  rintro b w1 rfl rfl
  refine appP_own (B := w.heap.size) (Own.alloc (w := w) [] 5 1 0 rfl) (Ex.alloc w _).size (v8 xs) (hc.ex (Ex.alloc w _)) (by rw [v8_len]; omega) (v8_one _) rfl (by omega) (by omega) ?_
  intro p2 c2 w2 ho2 hk2
  have h2 : Ex w w2 := Kp.trans (Ex.alloc w _) hk2 (fun _ _ h => h) (fun i hi ⟨a, ha, hai⟩ => by cases ha; dsimp only at hai; omega)
  unfold stopcockref03_Close.l1
  refine ⟨fun q m d w3 => n ≤ m ∧ m ≤ 60 ∧ Own w3 w.heap.size ty_uint8 1 q m d (v8 (xs ++ List.replicate (m - n) 0)) ∧ Ex w w3, fun _ m _ _ => 60 - m, ⟨by omega, by omega, ?_, h2⟩, ?_⟩
  · rw [Nat.zero_add, Nat.sub_self]
    rw [Nat.zero_add] at ho2
    simpa using ho2
  rintro q m d w3 ⟨hnm, hm, ho, h3⟩
  unfold stopcockref03_Close.b1
  by_cases hlt : (m : Int) < 60
  · rw [condd_pos hlt]
    rintro b5 w4 rfl rfl
    refine appP_own (B := w.heap.size) (ho.ex (Ex.alloc w3 _)) (h3.trans (Ex.alloc w3 _)).size (v8 [0]) (CellsO.alloc _ _) rfl (v8_one _) rfl (by omega) (by omega) ?_
    intro p5 c5 w5 ho5 hk5
    have h5 : Ex w w5 := Kp.trans (h3.trans (Ex.alloc w3 _)) hk5 (fun _ _ h => h.elim) (fun i hi ⟨a, ha, hai⟩ => by have := (ho.ge ha).1; omega)
    refine ⟨⟨by omega, by omega, ?_, h5⟩, by ((try dsimp only); omega)⟩
    rw [v8_app, List.append_assoc] at ho5
    rw [show m + 1 - n = (m - n) + 1 by omega, List.replicate_succ']
    exact ho5
  · rw [condd_neg hlt]
    obtain rfl : m = 60 := by omega
    have ep : xs ++ List.replicate (60 - n) 0 = pad xs := by rw [pad, hn]
    rw [ep] at ho
    unfold stopcockref03_Close.k1
    refine callP.use (refSum_spec q 60 d (pad xs) w3 ho.cells (pad_length (by omega)) (by omega) (pad_bytes hb)) ?_
    rintro _ w4 ⟨rfl, h4⟩
    try dsimp only [dI_i64, dI_u8, dI_u16, dI_u32, dB_bool, dS_slice, dP_ptr, dT_tup, dA_agg, dStr_str, dF_f, dC_c, dM_m, optP_some, ga0, ga1, ga2, ga3, ga4, cond_true, cond_false, chk_true, Bool.not_true, Bool.not_false, Option.isNone_none, Option.isNone_some]
    rintro b5 w5 rfl rfl
    have hs := sumB_u (more 0#32 (pad xs))
    refine appP_own (B := w.heap.size) ((ho.ex h4).ex (Ex.alloc w4 _)) ((h3.trans h4).trans (Ex.alloc w4 _)).size (v8 (sumB (more 0#32 (pad xs)))) ?_ (by rw [v8_len]; rfl) (v8_one _) rfl (by omega) (by omega) ?_
    · rw [← hs]
      exact CellsO.alloc _ _
    intro p6 c6 w6 ho6 hk6
    have h6 : Ex w w6 := Kp.trans ((h3.trans h4).trans (Ex.alloc w4 _)) hk6 (fun _ _ h => h.elim) (fun i hi ⟨a, ha, hai⟩ => by have := (ho.ge ha).1; omega)
    refine Ret.mk ⟨p6, 60 + 4, c6, by rw [cloE, if_neg e], by omega, ?_, h6⟩
    rw [cloB, if_neg e, sealed, ← v8_app]
    exact ho6

theorem refOpen_spec (p : Option Addr) (n c : Nat) (xs : List Int) (w : World) (hc : CellsO w p (v8 xs)) (hn : xs.length = n) (hcap : n ≤ c) (hb : Bytes xs) :
    stopcockref03_Open.C p n c w (Ret fun v w' => ∃ p' n' c', v = .tuple #[.slice p' n' c', .int .i64 (opnE xs)] ∧ n' ≤ 60 ∧ Own w' w.heap.size ty_uint8 1 p' n' c' (v8 (opnB xs)) ∧ Ex w w') := by
  apply stopcockref03_Open.ok
  unfold stopcockref03_Open.main
  by_cases h64 : n = 64
  · subst h64
    rw [cond_neg (by decide)]
    have hcs : CellsO w (slA p c 0 1) (v8 (xs.take 60)) := by
      have := CellsO.slice hc c 0 60 (by rw [v8_len]; omega)
      rw [List.drop_zero, v8, ← List.map_take] at this
      exact this
    refine chkd_of (by omega) ?_
    refine callP.use (refClose_spec _ 60 c (xs.take 60) w hcs (by simp; omega) (hb.take 60)) ?_
    rintro _ w1 ⟨p1, n1, c1, rfl, hn1, ho1, h1⟩
    try dsimp only [dI_i64, dI_u8, dI_u16, dI_u32, dB_bool, dS_slice, dP_ptr, dT_tup, dA_agg, dStr_str, dF_f, dC_c, dM_m, optP_some, ga0, ga1, ga2, ga3, ga4, cond_true, cond_false, chk_true, Bool.not_true, Bool.not_false, Option.isNone_none, Option.isNone_some]
    refine ⟨cloB (xs.take 60), own_len ho1, ho1.cells, xs, hn, hc.ex h1, ?_⟩
    rw [strOf_eq (cloB_bytes (hb.take 60)) hb]
    by_cases he : cloB (xs.take 60) = xs
    · rw [cond_neg (by simp [he])]
      rintro b5 w2 rfl rfl
      refine chkd_of (by omega) ?_
      refine appP_own (B := w1.heap.size) (Own.alloc (w := w1) [] 5 1 0 rfl) (Ex.alloc w1 _).size (v8 (xs.take 60)) ((hcs.ex h1).ex (Ex.alloc w1 _)) (by rw [v8_len]; simp; omega) (v8_one _) rfl (by omega) (by omega) ?_
      intro p3 c3 w3 ho3 hk3
      have h3 : Ex w1 w3 := Kp.trans (Ex.alloc w1 _) hk3 (fun _ _ h => h) (fun i hi ⟨a, ha, hai⟩ => by cases ha; dsimp only at hai; omega)
      refine Ret.mk ⟨p3, 0 + 60, c3, by rw [opnE, if_pos hn, if_pos he], by omega, ?_, h1.trans h3⟩
      rw [opnB, if_pos hn, if_pos he]
      exact ho3.lower h1.size
    · rw [cond_pos (by simp [he])]
      refine Ret.mk ⟨none, 0, 0, by rw [opnE, if_pos hn, if_neg he], by omega, ?_, h1⟩
      rw [opnB, if_pos hn, if_neg he]
      exact Own.nil _ _ _ _
  · rw [cond_pos (by simp; omega)]
    have h64' : ¬ xs.length = 64 := by omega
    refine Ret.mk ⟨none, 0, 0, by rw [opnE, if_neg h64'], by omega, ?_, Ex.refl w⟩
    rw [opnB, if_neg h64']
    exact Own.nil _ _ _ _

theorem SealSums_row (s : Int) (p : Option Addr) (n c : Nat) (xs : List Int) (w : World) (hs : 0 ≤ s ∧ s < 4294967296) (h : Ints .u8 w p n c xs) (hr : c * 1 ≤ 140737488351232) :
    stopcocklaw03_SealSums.C s p n c w (Ret fun v w' => v = .bool true ∧ Ex w w') := by
  have hroom := h.room
  have hb : Bytes xs := fun x hx => wf_u8' (h.wf x hx)
  apply stopcocklaw03_SealSums.ok
  unfold stopcocklaw03_SealSums.main
  obtain ⟨r, rfl⟩ : ∃ r : Reg, s = u r := ⟨BitVec.ofInt 32 s, (u_of hs.1 hs.2).symm⟩
  refine callP.use (awake_spec w) ?_
  rintro _ w1 ⟨rfl, h1⟩
  try dsimp only [dI_i64, dI_u8, dI_u16, dI_u32, dB_bool, dS_slice, dP_ptr, dT_tup, dA_agg, dStr_str, dF_f, dC_c, dM_m, optP_some, ga0, ga1, ga2, ga3, ga4, cond_true, cond_false, chk_true, Bool.not_true, Bool.not_false, Option.isNone_none, Option.isNone_some]
  refine callP.use (Sum_spec p n c xs w1 (h.cells.ex h1) h.size (by omega) hb) ?_
  rintro _ w2 ⟨rfl, h2⟩
  try dsimp only [dI_i64, dI_u8, dI_u16, dI_u32, dB_bool, dS_slice, dP_ptr, dT_tup, dA_agg, dStr_str, dF_f, dC_c, dM_m, optP_some, ga0, ga1, ga2, ga3, ga4, cond_true, cond_false, chk_true, Bool.not_true, Bool.not_false, Option.isNone_none, Option.isNone_some]
  refine callP.use (refSum_spec p n c xs w2 (h.cells.ex (h1.trans h2)) h.size (by omega) hb) ?_
  rintro _ w3 ⟨rfl, h3⟩
  try dsimp only [dI_i64, dI_u8, dI_u16, dI_u32, dB_bool, dS_slice, dP_ptr, dT_tup, dA_agg, dStr_str, dF_f, dC_c, dM_m, optP_some, ga0, ga1, ga2, ga3, ga4, cond_true, cond_false, chk_true, Bool.not_true, Bool.not_false, Option.isNone_none, Option.isNone_some]
  rw [cond_pos (by simp)]
  refine callP.use (More_spec r p n c xs w3 (h.cells.ex ((h1.trans h2).trans h3)) h.size (by omega) hb) ?_
  rintro _ w4 ⟨rfl, h4⟩
  try dsimp only [dI_i64, dI_u8, dI_u16, dI_u32, dB_bool, dS_slice, dP_ptr, dT_tup, dA_agg, dStr_str, dF_f, dC_c, dM_m, optP_some, ga0, ga1, ga2, ga3, ga4, cond_true, cond_false, chk_true, Bool.not_true, Bool.not_false, Option.isNone_none, Option.isNone_some]
  refine callP.use (refMore_spec r p n c xs w4 (h.cells.ex (((h1.trans h2).trans h3).trans h4)) h.size (by omega) hb) ?_
  rintro _ w5 ⟨rfl, h5⟩
  try dsimp only [dI_i64, dI_u8, dI_u16, dI_u32, dB_bool, dS_slice, dP_ptr, dT_tup, dA_agg, dStr_str, dF_f, dC_c, dM_m, optP_some, ga0, ga1, ga2, ga3, ga4, cond_true, cond_false, chk_true, Bool.not_true, Bool.not_false, Option.isNone_none, Option.isNone_some]
  exact Ret.mk ⟨by simp, (((h1.trans h2).trans h3).trans h4).trans h5⟩

theorem SealSectors_row (p : Option Addr) (n c : Nat) (xs : List Int) (q : Option Addr) (m d : Nat) (ys : List Int) (w : World) (h : Ints .u8 w p n c xs) (hr : c * 1 ≤ 140737488351232) (h' : Ints .u8 w q m d ys) (hr' : d * 1 ≤ 140737488351232) :
    stopcocklaw03_SealSectors.C p n c q m d w (Ret fun v w' => v = .bool true ∧ Ex w w') := by
  have hb : Bytes xs := fun x hx => wf_u8' (h.wf x hx)
  have hb' : Bytes ys := fun x hx => wf_u8' (h'.wf x hx)
  apply stopcocklaw03_SealSectors.ok
  unfold stopcocklaw03_SealSectors.main
  refine callP.use (Close_spec p n c xs w h.cells h.size hb) ?_
  rintro _ w1 ⟨p1, n1, c1, rfl, hn1, ho1, h1⟩
  try dsimp only [dI_i64, dI_u8, dI_u16, dI_u32, dB_bool, dS_slice, dP_ptr, dT_tup, dA_agg, dStr_str, dF_f, dC_c, dM_m, optP_some, ga0, ga1, ga2, ga3, ga4, cond_true, cond_false, chk_true, Bool.not_true, Bool.not_false, Option.isNone_none, Option.isNone_some]
  refine callP.use (refClose_spec p n c xs w1 (h.cells.ex h1) h.size hb) ?_
  rintro _ w2 ⟨p2, n2, c2, rfl, hn2, ho2, h2⟩
  try dsimp only [dI_i64, dI_u8, dI_u16, dI_u32, dB_bool, dS_slice, dP_ptr, dT_tup, dA_agg, dStr_str, dF_f, dC_c, dM_m, optP_some, ga0, ga1, ga2, ga3, ga4, cond_true, cond_false, chk_true, Bool.not_true, Bool.not_false, Option.isNone_none, Option.isNone_some]
  refine callP.use (Open_spec q m d ys w2 (h'.cells.ex (h1.trans h2)) h'.size h'.room hb') ?_
  rintro _ w3 ⟨p3, n3, c3, rfl, hn3, ho3, h3⟩
  try dsimp only [dI_i64, dI_u8, dI_u16, dI_u32, dB_bool, dS_slice, dP_ptr, dT_tup, dA_agg, dStr_str, dF_f, dC_c, dM_m, optP_some, ga0, ga1, ga2, ga3, ga4, cond_true, cond_false, chk_true, Bool.not_true, Bool.not_false, Option.isNone_none, Option.isNone_some]
  refine callP.use (refOpen_spec q m d ys w3 (h'.cells.ex ((h1.trans h2).trans h3)) h'.size h'.room hb') ?_
  rintro _ w4 ⟨p4, n4, c4, rfl, hn4, ho4, h4⟩
  try dsimp only [dI_i64, dI_u8, dI_u16, dI_u32, dB_bool, dS_slice, dP_ptr, dT_tup, dA_agg, dStr_str, dF_f, dC_c, dM_m, optP_some, ga0, ga1, ga2, ga3, ga4, cond_true, cond_false, chk_true, Bool.not_true, Bool.not_false, Option.isNone_none, Option.isNone_some]
  refine callP.use (awake_spec w4) ?_
  rintro _ w5 ⟨rfl, h5⟩
  try dsimp only [dI_i64, dI_u8, dI_u16, dI_u32, dB_bool, dS_slice, dP_ptr, dT_tup, dA_agg, dStr_str, dF_f, dC_c, dM_m, optP_some, ga0, ga1, ga2, ga3, ga4, cond_true, cond_false, chk_true, Bool.not_true, Bool.not_false, Option.isNone_none, Option.isNone_some]
  rw [cond_pos (by simp)]
  refine ⟨cloB xs, own_len ho1, ho1.cells.ex (((h2.trans h3).trans h4).trans h5), cloB xs, own_len ho2, ho2.cells.ex ((h3.trans h4).trans h5), ?_⟩
  rw [cond_pos (by simp), cond_pos (by simp)]
  refine ⟨opnB ys, own_len ho3, ho3.cells.ex (h4.trans h5), opnB ys, own_len ho4, ho4.cells.ex h5, Ret.mk ⟨by simp, (((h1.trans h2).trans h3).trans h4).trans h5⟩⟩
end Go.Proofs.Ytikclgliegfocaa.G

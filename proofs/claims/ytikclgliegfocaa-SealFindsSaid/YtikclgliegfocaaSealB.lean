/-
  Sealed sectors: seal.Close, seal.Open, the document's Close and Open; the simplest facts.
-/
import Derived.Test.YtikclgliegfocaaSealA
import Derived.Test.YtikclgliegfocaaG2
namespace Go.Proofs.Ytikclgliegfocaa.G
open Go.Dec Go.RowKit
set_option linter.unusedVariables false
set_option linter.unusedSimpArgs false

def Bytes (xs : List Int) : Prop := ∀ x ∈ xs, 0 ≤ x ∧ x < 256
theorem Bytes.append {xs ys : List Int} (h : Bytes xs) (k : Bytes ys) : Bytes (xs ++ ys) := fun x hx => (List.mem_append.1 hx).elim (h x) (k x)
theorem Bytes.zeros (n : Nat) : Bytes (List.replicate n 0) := fun x hx => by rw [(List.mem_replicate.1 hx).2]; omega
theorem Bytes.take {xs : List Int} (h : Bytes xs) (n : Nat) : Bytes (xs.take n) := fun x hx => h x (List.mem_of_mem_take hx)
theorem Bytes.drop {xs : List Int} (h : Bytes xs) (n : Nat) : Bytes (xs.drop n) := fun x hx => h x (List.mem_of_mem_drop hx)
def pad (xs : List Int) : List Int := xs ++ List.replicate (60 - xs.length) 0
def sumB (r : Reg) : List Int := [u r / 16777216 % 256, u r / 65536 % 256, u r / 256 % 256, u r % 256]
def sealed (xs : List Int) : List Int := pad xs ++ sumB (more 0#32 (pad xs))
def cloE (xs : List Int) : Int := if 60 < xs.length then 6 else 0
def cloB (xs : List Int) : List Int := if 60 < xs.length then [] else sealed xs
def opnE (xs : List Int) : Int := if xs.length = 64 then (if cloB (xs.take 60) = xs then 0 else 2) else 6
def opnB (xs : List Int) : List Int := if xs.length = 64 then (if cloB (xs.take 60) = xs then xs.take 60 else []) else []
theorem pad_length {xs : List Int} (h : xs.length ≤ 60) : (pad xs).length = 60 := by simp [pad]; omega
theorem sumB_bytes (r : Reg) : Bytes (sumB r) := by
  intro x hx
  simp only [sumB, List.mem_cons, List.not_mem_nil, or_false] at hx
  rcases hx with rfl | rfl | rfl | rfl <;> exact ⟨Int.emod_nonneg _ (by omega), Int.emod_lt_of_pos _ (by omega)⟩
theorem pad_bytes {xs : List Int} (h : Bytes xs) : Bytes (pad xs) := h.append (Bytes.zeros _)
theorem seal_bytes {xs : List Int} (h : Bytes xs) : Bytes (sealed xs) := (pad_bytes h).append (sumB_bytes _)
theorem cloB_bytes {xs : List Int} (h : Bytes xs) : Bytes (cloB xs) := by
  unfold cloB
  split
  · intro x hx; cases hx
  · exact seal_bytes h
theorem opnB_bytes {xs : List Int} (h : Bytes xs) : Bytes (opnB xs) := by
  unfold opnB
  split
  · split
    · exact h.take 60
    · intro x hx; cases hx
  · intro x hx; cases hx
theorem sumB_u (r : Reg) : [Value.int .u8 (IntKind.u8.wrap (Int.fdiv (u r) (2 ^ (min 24 IntKind.u32.bits)))), Value.int .u8 (IntKind.u8.wrap (Int.fdiv (u r) (2 ^ (min 16 IntKind.u32.bits)))), Value.int .u8 (IntKind.u8.wrap (Int.fdiv (u r) (2 ^ (min 8 IntKind.u32.bits)))), Value.int .u8 (IntKind.u8.wrap (u r))] = v8 (sumB r) := by
  have e1 : (2 : Int) ^ (min 24 IntKind.u32.bits) = 16777216 := by decide
  have e2 : (2 : Int) ^ (min 16 IntKind.u32.bits) = 65536 := by decide
  have e3 : (2 : Int) ^ (min 8 IntKind.u32.bits) = 256 := by decide
  rw [e1, e2, e3, wu8, wu8, wu8, wu8, Int.fdiv_eq_ediv_of_nonneg _ (by omega), Int.fdiv_eq_ediv_of_nonneg _ (by omega), Int.fdiv_eq_ediv_of_nonneg _ (by omega)]
  rfl
theorem v8_one (xs : List Int) : ∀ y ∈ v8 xs, y.oneCell' = true := vals_one _ _
theorem v8_app (xs ys : List Int) : v8 xs ++ v8 ys = v8 (xs ++ ys) := by simp [v8]
theorem v8_len (xs : List Int) : (v8 xs).length = xs.length := by simp [v8]

theorem clone_spec (p : Option Addr) (n c : Nat) (xs : List Int) (w : World) (hc : CellsO w p (v8 xs)) (hn : xs.length = n) (hl : n ≤ 140737488355328) :
    bytes_Clone.C p n c w (Ret fun v w' => ∃ p' c', v = .slice p' n c' ∧ Own w' w.heap.size ty_uint8 1 p' n c' (v8 xs) ∧ Ex w w') := by
  apply bytes_Clone.ok
  unfold bytes_Clone.main
  refine cond_of (fun h => ?_) (fun h => ?_)
  · cases p with
    | none =>
      have e : xs = [] := by have : v8 xs = [] := hc; simpa [v8] using this
      subst e
      obtain rfl : n = 0 := by simpa using hn.symm
      exact Ret.mk ⟨none, 0, rfl, Own.nil _ _ _ _, Ex.refl w⟩
    | some a => cases h
  · rintro b w1 rfl rfl
    refine appP_own (B := w.heap.size) (Own.alloc (w := w) [] 5 1 0 rfl) (Ex.alloc w _).size (v8 xs) (hc.ex (Ex.alloc w _)) (by rw [v8_len]; omega) (v8_one _) rfl (by omega) (by omega) ?_
    intro p2 c2 w2 ho2 hk2
    have hex : Ex w w2 := Kp.trans (Ex.alloc w _) hk2 (fun _ _ h => h) (fun i hi ⟨a, ha, hai⟩ => by cases ha; dsimp only at hai; omega)
    rw [Nat.zero_add] at ho2
    rw [Nat.zero_add]
    exact Ret.mk ⟨p2, c2, rfl, ho2, hex⟩
theorem Equal_spec (p : Option Addr) (n c : Nat) (q : Option Addr) (m d : Nat) (xs ys : List Int) (w : World) (hc : CellsO w p (v8 xs)) (hn : xs.length = n) (hd : CellsO w q (v8 ys)) (hm : ys.length = m) (hb : Bytes xs) (hb' : Bytes ys) :
    bytes_Equal.C p n c q m d w (Ret fun v w' => v = .bool (decide (xs = ys)) ∧ Ex w w') := by
  apply bytes_Equal.ok
  unfold bytes_Equal.main
  refine ⟨xs, hn, hc, ys, hm, hd, Ret.mk ⟨?_, Ex.refl w⟩⟩
  rw [strOf_eq hb hb']

theorem Close_spec (p : Option Addr) (n c : Nat) (xs : List Int) (w : World) (hc : CellsO w p (v8 xs)) (hn : xs.length = n) (hb : Bytes xs) :
    seal_Close.C p n c w (Ret fun v w' => ∃ p' n' c', v = .tuple #[.slice p' n' c', .int .i64 (cloE xs)] ∧ n' ≤ 64 ∧ Own w' w.heap.size ty_uint8 1 p' n' c' (v8 (cloB xs)) ∧ Ex w w') := by
  apply seal_Close.ok
  unfold seal_Close.main
  by_cases h60 : (n : Int) > 60
  · rw [condd_pos h60]
    have e : 60 < xs.length := by omega
    refine Ret.mk ⟨none, 0, 0, by rw [cloE, if_pos e], by omega, ?_, Ex.refl w⟩
    rw [cloB, if_pos e]
    exact Own.nil _ _ _ _
  · rw [condd_neg h60]
    have e : ¬ 60 < xs.length := by omega
    rintro b w1 rfl rfl
    rw [madeCells_int]
    have ho1 : Own (w.alloc (.cells ((List.replicate (64 * 1) (0 : Int)).map (Value.int .u8)).toArray 5)) w.heap.size ty_uint8 1 (some ⟨w.heap.size, 0, none⟩) 60 64 (v8 (List.replicate 60 0)) := by
      have := Own.made (w := w) (e := ty_uint8) (sz := 1) (n := 60) (c := 64) (cur := ((List.replicate (64 * 1) (0 : Int)).map (Value.int .u8)).toArray) (fr := (0, 0)) (by omega) (by simp) (Loose.zero _)
      have e2 : ((List.replicate (64 * 1) (0 : Int)).map (Value.int .u8)).toArray.toList.take (60 * 1) = v8 (List.replicate 60 0) := by
        rw [List.toList_toArray, ← List.map_take, List.take_replicate]
        rfl
      rw [e2] at this
      exact this
    refine copyP_own ho1 (hc.ex (Ex.alloc w _)) (by rw [v8_len]; exact hn) (by omega) (v8_one _) ?_
    intro w2 ho2 hk2
    have e3 : v8 xs ++ (v8 (List.replicate 60 0)).drop n = v8 (pad xs) := by
      rw [v8, v8, ← List.map_drop, List.drop_replicate, ← List.map_append, pad, hn]
      rfl
    rw [e3] at ho2
    have h2 : Ex w w2 := Kp.trans (Ex.alloc w _) hk2 (fun _ _ h => h) (fun i hi ⟨a, ha, hai⟩ => by cases ha; dsimp only at hai; omega)
    refine callP.use (Sum_spec _ 60 64 (pad xs) w2 ho2.cells (pad_length (by omega)) (by omega) (pad_bytes hb)) ?_
    rintro _ w3 ⟨rfl, h3⟩
    try dsimp only [dI_i64, dI_u8, dI_u16, dI_u32, dB_bool, dS_slice, dP_ptr, dT_tup, dA_agg, dStr_str, dF_f, dC_c, dM_m, optP_some, ga0, ga1, ga2, ga3, ga4, cond_true, cond_false, chk_true, Bool.not_true, Bool.not_false, Option.isNone_none, Option.isNone_some]
    rintro b2 w4 rfl rfl
    have hs := sumB_u (more 0#32 (pad xs))
    have h4 : Ex w2 (w3.alloc (.cells #[Value.int .u8 (IntKind.u8.wrap (Int.fdiv (u (more 0#32 (pad xs))) (2 ^ (min 24 IntKind.u32.bits)))), Value.int .u8 (IntKind.u8.wrap (Int.fdiv (u (more 0#32 (pad xs))) (2 ^ (min 16 IntKind.u32.bits)))), Value.int .u8 (IntKind.u8.wrap (Int.fdiv (u (more 0#32 (pad xs))) (2 ^ (min 8 IntKind.u32.bits)))), Value.int .u8 (IntKind.u8.wrap (u (more 0#32 (pad xs))))] 5)) := h3.trans (Ex.alloc _ _)
    refine appP_own (B := w.heap.size) (ho2.ex h4) (h2.trans h4).size (v8 (sumB (more 0#32 (pad xs)))) ?_ (by rw [v8_len]; rfl) (v8_one _) rfl (by omega) (by omega) ?_
    · rw [← hs]
      exact CellsO.alloc _ _
    intro p5 c5 w5 ho5 hk5
    have h5 : Ex w w5 := Kp.trans (h2.trans h4) hk5 (fun _ _ h => h) (fun i hi ⟨a, ha, hai⟩ => by cases ha; dsimp only at hai; omega)
    refine Ret.mk ⟨p5, 60 + 4, c5, by rw [cloE, if_neg e], by omega, ?_, h5⟩
    rw [cloB, if_neg e, sealed, ← v8_app]
    exact ho5
theorem cloB_length {xs : List Int} {p : Option Addr} {n c : Nat} {w : World} {B : Nat} (h : Own w B ty_uint8 1 p n c (v8 (cloB xs))) : (cloB xs).length = n := by
  have := h.1
  rw [v8_len, Nat.mul_one] at this
  exact this
theorem own_len {xs : List Int} {p : Option Addr} {n c : Nat} {w : World} {B : Nat} {e : TypeId} (h : Own w B e 1 p n c (v8 xs)) : xs.length = n := by
  have := h.1
  rw [v8_len, Nat.mul_one] at this
  exact this
theorem Open_spec (p : Option Addr) (n c : Nat) (xs : List Int) (w : World) (hc : CellsO w p (v8 xs)) (hn : xs.length = n) (hcap : n ≤ c) (hb : Bytes xs) :
    seal_Open.C p n c w (Ret fun v w' => ∃ p' n' c', v = .tuple #[.slice p' n' c', .int .i64 (opnE xs)] ∧ n' ≤ 60 ∧ Own w' w.heap.size ty_uint8 1 p' n' c' (v8 (opnB xs)) ∧ Ex w w') := by
  apply seal_Open.ok
  unfold seal_Open.main
  by_cases h64 : n = 64
  · subst h64
    rw [cond_neg (by decide)]
    have hcs : CellsO w (slA p c 0 1) (v8 (xs.take 60)) := by
      have := CellsO.slice hc c 0 60 (by rw [v8_len]; omega)
      rw [List.drop_zero, v8, ← List.map_take] at this
      exact this
    refine chkd_of (by omega) ?_
    refine callP.use (Close_spec _ 60 c (xs.take 60) w hcs (by simp; omega) (hb.take 60)) ?_
    rintro _ w1 ⟨p1, n1, c1, rfl, hn1, ho1, h1⟩
    try dsimp only [dI_i64, dI_u8, dI_u16, dI_u32, dB_bool, dS_slice, dP_ptr, dT_tup, dA_agg, dStr_str, dF_f, dC_c, dM_m, optP_some, ga0, ga1, ga2, ga3, ga4, cond_true, cond_false, chk_true, Bool.not_true, Bool.not_false, Option.isNone_none, Option.isNone_some]
    refine callP.use (Equal_spec p1 n1 c1 p 64 c _ xs w1 ho1.cells (own_len ho1) (hc.ex h1) hn (cloB_bytes (hb.take 60)) hb) ?_
    rintro _ w2 ⟨rfl, h2⟩
    try dsimp only [dI_i64, dI_u8, dI_u16, dI_u32, dB_bool, dS_slice, dP_ptr, dT_tup, dA_agg, dStr_str, dF_f, dC_c, dM_m, optP_some, ga0, ga1, ga2, ga3, ga4, cond_true, cond_false, chk_true, Bool.not_true, Bool.not_false, Option.isNone_none, Option.isNone_some]
    by_cases he : cloB (xs.take 60) = xs
    · rw [cond_neg (by simp [he])]
      refine chkd_of (by omega) ?_
      refine callP.use (clone_spec _ 60 c (xs.take 60) w2 (hcs.ex (h1.trans h2)) (by simp; omega) (by omega)) ?_
      rintro _ w3 ⟨p3, c3, rfl, ho3, h3⟩
      try dsimp only [dI_i64, dI_u8, dI_u16, dI_u32, dB_bool, dS_slice, dP_ptr, dT_tup, dA_agg, dStr_str, dF_f, dC_c, dM_m, optP_some, ga0, ga1, ga2, ga3, ga4, cond_true, cond_false, chk_true, Bool.not_true, Bool.not_false, Option.isNone_none, Option.isNone_some]
      refine Ret.mk ⟨p3, 60, c3, by rw [opnE, if_pos hn, if_pos he], by omega, ?_, (h1.trans h2).trans h3⟩
      rw [opnB, if_pos hn, if_pos he]
      exact ho3.lower (h1.trans h2).size
    · rw [cond_pos (by simp [he])]
      refine Ret.mk ⟨none, 0, 0, by rw [opnE, if_pos hn, if_neg he], by omega, ?_, h1.trans h2⟩
      rw [opnB, if_pos hn, if_neg he]
      exact Own.nil _ _ _ _
  · rw [cond_pos (by simp; omega)]
    have h64' : ¬ xs.length = 64 := by omega
    refine Ret.mk ⟨none, 0, 0, by rw [opnE, if_neg h64'], by omega, ?_, Ex.refl w⟩
    rw [opnB, if_neg h64']
    exact Own.nil _ _ _ _
end Go.Proofs.Ytikclgliegfocaa.G

/-
  Deltas as bytes: delta.Encode, delta.Decode.
-/
import Derived.Test.YtnbegeghcjldfaaDeltaA
namespace Go.Proofs.Ytnbegeghcjldfaa.G
open Go.Dec Go.RowKit
set_option linter.unusedVariables false
set_option linter.unusedSimpArgs false

/-! ### Bytes of a delta -/
def encB (d : Dl) : List Int := [d.k, d.v * 16 + d.o, d.b, d.x, d.y]
def encR (d : Dl) : List Int := if chk0 d = 0 then encB d else []
/-- what a delta may be -/
structure Fine (d : Dl) : Prop where
  k : 1 ≤ d.k ∧ d.k < 6
  v : 0 ≤ d.v ∧ d.v < 8
  o : 0 ≤ d.o ∧ d.o < 8
  b : 0 ≤ d.b ∧ d.b < 33
  x : 0 ≤ d.x ∧ d.x < 24
  y : 0 ≤ d.y ∧ d.y < 16
theorem fine_of {d : Dl} (hw : d.wf) (h : chk0 d = 0) : Fine d := by
  obtain ⟨k, v, o, b, x, y⟩ := d
  obtain ⟨hx, hy⟩ := hw
  unfold Byte at hx hy
  dsimp only at hx hy
  unfold chk0 at h
  split at h
  · rename_i hk
    split at h
    · rename_i ho
      split at h
      · rename_i hl
        obtain ⟨l1, l2, l3, l4⟩ := hl
        simp only [inn, Bool.and_eq_true, decide_eq_true_eq] at hk
        have hk' : k = 1 ∨ k = 2 ∨ k = 3 ∨ k = 4 ∨ k = 5 := by omega
        rcases hk' with rfl | rfl | rfl | rfl | rfl <;> simp [okR, inn, whole, leftO, leftB, leftX, leftY] at ho l1 l2 l3 l4 <;> constructor <;> dsimp only <;> omega
      · cases h
    · cases h
  · cases h
theorem or_tab : ∀ (v o : Fin 16), IntKind.i64.wrap ((BitVec.ofInt IntKind.i64.bits (IntKind.i64.wrap ((v.val : Int) * 2 ^ (min 4 IntKind.i64.bits))) ||| BitVec.ofInt IntKind.i64.bits (o.val : Int)).toNat : Int) = (v.val : Int) * 16 + (o.val : Int) := by decide +kernel
theorem or_byte {v o : Int} (hv : 0 ≤ v ∧ v < 16) (ho : 0 ≤ o ∧ o < 16) : IntKind.i64.wrap ((BitVec.ofInt IntKind.i64.bits (IntKind.i64.wrap (v * 2 ^ (min 4 IntKind.i64.bits))) ||| BitVec.ofInt IntKind.i64.bits o).toNat : Int) = v * 16 + o := by
  obtain ⟨m, rfl⟩ := Int.eq_ofNat_of_zero_le hv.1
  obtain ⟨n, rfl⟩ := Int.eq_ofNat_of_zero_le ho.1
  exact or_tab ⟨m, by omega⟩ ⟨n, by omega⟩
theorem and_tab : ∀ (x : Fin 256), IntKind.i64.wrap (IntKind.u8.wrap ((BitVec.ofInt IntKind.u8.bits (x.val : Int) &&& BitVec.ofInt IntKind.u8.bits 15).toNat : Int)) = (x.val : Int) % 16 := by decide +kernel
theorem and_byte {x : Int} (h : Byte x) : IntKind.i64.wrap (IntKind.u8.wrap ((BitVec.ofInt IntKind.u8.bits x &&& BitVec.ofInt IntKind.u8.bits 15).toNat : Int)) = x % 16 := by
  obtain ⟨n, rfl⟩ := Int.eq_ofNat_of_zero_le h.1
  exact and_tab ⟨n, by have := h.2; omega⟩
theorem shr_tab : ∀ (x : Fin 256), IntKind.i64.wrap (Int.fdiv (x.val : Int) (2 ^ (min 4 IntKind.u8.bits))) = (x.val : Int) / 16 := by decide +kernel
theorem shr_byte {x : Int} (h : Byte x) : IntKind.i64.wrap (Int.fdiv x (2 ^ (min 4 IntKind.u8.bits))) = x / 16 := by
  obtain ⟨n, rfl⟩ := Int.eq_ofNat_of_zero_le h.1
  exact shr_tab ⟨n, by have := h.2; omega⟩
theorem encB_bytes {d : Dl} (h : Fine d) : Bytes (encB d) := by
  intro z hz
  have := h.k; have := h.v; have := h.o; have := h.b; have := h.x; have := h.y
  simp only [encB, List.mem_cons, List.not_mem_nil, or_false] at hz
  omega
theorem encR_bytes {d : Dl} (hd : d.wf) : Bytes (encR d) := by
  unfold encR
  split
  · exact encB_bytes (fine_of hd ‹_›)
  · intro z hz; cases hz
theorem Encode_spec {d : Dl} (hd : d.wf) (w : World) : delta_Encode.C d.k d.v d.o d.b (fl d.x) (fl d.y) w (Ret fun v w' => ∃ p c, v = .tuple #[.slice p (encR d).length c, .int .i64 (chk0 d)] ∧ Ex w w' ∧ Owns w' w.heap.size ty_uint8 1 p (encR d).length c (v8 (encR d))) := by
  apply delta_Encode.ok
  unfold delta_Encode.main
  rintro b1 w1 rfl rfl
  have o1 := Owns.new (w := w) d.cells ty_api_Delta
  have x1 := Ex.alloc w (.cells d.cells.toArray ty_api_Delta)
  unfold Dl.cells at o1 x1
  generalize w.alloc (.cells #[.int .i64 d.k, .int .i64 d.v, .int .i64 d.o, .int .i64 d.b, .complex .f64 (fl d.x) (fl d.y)] ty_api_Delta) = w1 at o1 x1 ⊢
  refine ⟨d.cells.toArray, rfl, o1.cells, ?_⟩
  refine callP.use (Check_spec hd _) ?_
  rintro _ w2 ⟨rfl, x2⟩
  try dsimp only [dI_i64, dI_u8, dI_u16, dI_u32, dB_bool, dS_slice, dP_ptr, dT_tup, dA_agg, dStr_str, dF_f, dC_c, dM_m, optP_some, ga0, ga1, ga2, ga3, ga4, cond_true, cond_false, chk_true, Bool.not_true, Bool.not_false, Option.isNone_none, Option.isNone_some, List.toList_toArray]
  have x12 := x1.trans x2
  have o2 := o1.ex x2
  refine cond_of (fun h => ?_) (fun h => ?_)
  · have hc : ¬ chk0 d = 0 := by simpa using h
    refine Ret.mk ⟨none, 0, ?_, x12, ?_⟩
    · unfold encR; rw [if_neg hc]; rfl
    · unfold encR; rw [if_neg hc]; exact Owns.nil _ _ _ _
  · have hc : chk0 d = 0 := by simpa using h
    have hf := fine_of hd hc
    have hfv := hf.v; have hfo := hf.o; have hfk := hf.k; have hfb := hf.b; have hfx := hf.x; have hfy := hf.y
    refine ⟨d.k, o2.at (by rfl), d.v, o2.at (by rfl), d.o, o2.at (by rfl), d.b, o2.at (by rfl), fl d.x, fl d.y, o2.at (by rfl), ?_⟩
    obtain ⟨_, _, _, tx, _, _⟩ := fl_byte hd.1
    obtain ⟨_, _, _, ty, _, _⟩ := fl_byte hd.2
    rw [tx]
    try dsimp only [dI_i64, dI_u8, dI_u16, dI_u32, dB_bool, dS_slice, dP_ptr, dT_tup, dA_agg, dStr_str, dF_f, dC_c, dM_m, optP_some, ga0, ga1, ga2, ga3, ga4, cond_true, cond_false, chk_true, Bool.not_true, Bool.not_false, Option.isNone_none, Option.isNone_some, List.toList_toArray]
    refine chk_of (decide_eq_true (by show (0 : Int) ≤ d.x; omega)) (chk_of (decide_eq_true (by show d.x ≤ 255; omega)) ?_)
    refine ⟨fl d.x, fl d.y, o2.at (by rfl), ?_⟩
    rw [ty]
    try dsimp only [dI_i64, dI_u8, dI_u16, dI_u32, dB_bool, dS_slice, dP_ptr, dT_tup, dA_agg, dStr_str, dF_f, dC_c, dM_m, optP_some, ga0, ga1, ga2, ga3, ga4, cond_true, cond_false, chk_true, Bool.not_true, Bool.not_false, Option.isNone_none, Option.isNone_some, List.toList_toArray]
    refine chk_of (decide_eq_true (by show (0 : Int) ≤ d.y; omega)) (chk_of (decide_eq_true (by show d.y ≤ 255; omega)) ?_)
    rw [or_byte ⟨hfv.1, by omega⟩ ⟨hfo.1, by omega⟩, wu8, wu8, wu8, Int.emod_eq_of_lt (a := d.k) (by omega) (by omega), Int.emod_eq_of_lt (a := d.v * 16 + d.o) (by omega) (by omega), Int.emod_eq_of_lt (a := d.b) (by omega) (by omega)]
    rintro b4 w4 rfl rfl
    have o4 := Owns.alloc (w := w2) (v8 (encB d)) ty_uint8 1 5 rfl
    have x4 := Ex.alloc w2 (.cells (v8 (encB d)).toArray ty_uint8)
    refine Ret.mk ⟨some ⟨w2.heap.size, 0, none⟩, 5, ?_, x12.trans x4, ?_⟩
    · unfold encR; rw [if_pos hc, hc]; rfl
    · unfold encR; rw [if_pos hc]; exact o4.lower x12.size
/-- the delta that five bytes say -/
def decD : List Int → Dl
  | [a, b, c, d, e] => ⟨a, b / 16, b % 16, c, d, e⟩
  | _ => ⟨0, 0, 0, 0, 0, 0⟩
theorem decD_wf {xs : List Int} (h : Bytes xs) : (decD xs).wf := by
  unfold decD
  split
  · exact ⟨h _ (by simp), h _ (by simp)⟩
  · exact ⟨⟨by decide, by decide⟩, ⟨by decide, by decide⟩⟩
def decV (xs : List Int) : List Value := if chk0 (decD xs) = 0 then (decD xs).cells else zcells
theorem five {xs : List Int} (h : xs.length = 5) : ∃ a b c d e, xs = [a, b, c, d, e] := by
  match xs, h with
  | [a, b, c, d, e], _ => exact ⟨a, b, c, d, e, rfl⟩
theorem zcells_one : ∀ z ∈ zcells, z.oneCell' = true := cells_one
theorem dcells_one' (d : Dl) : ∀ z ∈ d.cells, z.oneCell' = true := cells_one
theorem Decode_spec {p : Option Addr} {c : Nat} {xs : List Int} {w : World} (hc : CellsO w p (v8 xs)) (hn : xs.length = 5) (hb : Bytes xs) :
    delta_Decode.C p 5 c w (Ret fun v w' => v = .tuple #[.agg (decV xs).toArray, .int .i64 (if chk0 (decD xs) = 0 then 0 else 2)] ∧ Ex w w') := by
  apply delta_Decode.ok
  unfold delta_Decode.main
  rintro b1 w1 rfl rfl
  have o1 := Owns.new (w := w) zcells ty_api_Delta
  have x1 := Ex.alloc w (.cells zcells.toArray ty_api_Delta)
  unfold zcells at o1 x1
  have hb1 : w.heap.size ≤ w.heap.size := Nat.le_refl _
  generalize hbe : w.heap.size = b1 at o1 hb1 ⊢
  generalize w.alloc (.cells #[.int .i64 0, .int .i64 0, .int .i64 0, .int .i64 0, .complex .f64 0 0] ty_api_Delta) = w1 at o1 x1 ⊢
  have hwf := decD_wf hb
  obtain ⟨a, b, c2, d, e, rfl⟩ := five hn
  have hc1 := (hc.ex x1).ex (Ex.drew w1)
  obtain ⟨q, rfl, r0⟩ := hc1.one (v := .int .u8 a) (by rfl)
  obtain ⟨_, e1, r1⟩ := hc1.many (j := 1) (v := .int .u8 b) (by rfl)
  cases e1
  obtain ⟨_, e1, r2⟩ := hc1.many (j := 2) (v := .int .u8 c2) (by rfl)
  cases e1
  obtain ⟨_, e1, r3⟩ := hc1.many (j := 3) (v := .int .u8 d) (by rfl)
  cases e1
  obtain ⟨_, e1, r4⟩ := hc1.many (j := 4) (v := .int .u8 e) (by rfl)
  cases e1
  have ha : Byte a := hb _ (by simp)
  have hbb : Byte b := hb _ (by simp)
  have hcc : Byte c2 := hb _ (by simp)
  rw [cond_neg (by rfl)]
  refine chk_of (by decide) ?_
  try dsimp only [dI_i64, dI_u8, dI_u16, dI_u32, dB_bool, dS_slice, dP_ptr, dT_tup, dA_agg, dStr_str, dF_f, dC_c, dM_m, optP_some, ga0, ga1, ga2, ga3, ga4, cond_true, cond_false, chk_true, Bool.not_true, Bool.not_false, Option.isNone_none, Option.isNone_some, List.toList_toArray]
  refine ⟨a, r0, chk_of (by decide) ?_⟩
  refine ⟨b, r1, chk_of (by decide) ?_⟩
  refine ⟨b, r1, chk_of (by decide) ?_⟩
  refine ⟨c2, r2, chk_of (by decide) ?_⟩
  refine ⟨d, r3, chk_of (by decide) ?_⟩
  refine ⟨e, r4, ?_⟩
  rintro b2 w3 rfl rfl
  have o1d := o1.ex (Ex.drew w1)
  have o3 := Owns.new (w := w1.drew) zcells ty_api_Delta
  have x3 := Ex.alloc w1.drew (.cells zcells.toArray ty_api_Delta)
  unfold zcells at o3 x3
  have hne : w1.drew.heap.size ≠ b1 := by have := o1d.ge rfl; dsimp only at this; omega
  have hge : w.heap.size ≤ w1.drew.heap.size := (x1.trans (Ex.drew w1)).size
  generalize w1.drew.heap.size = b2 at o3 hne hge ⊢
  generalize w1.drew.alloc (.cells #[.int .i64 0, .int .i64 0, .int .i64 0, .int .i64 0, .complex .f64 0 0] ty_api_Delta) = w3 at o3 x3 ⊢
  have hc3 := hc1.ex x3
  have at0 : w3.cell? q = some (.int .u8 a) := by
    have := hc3 0 _ rfl
    rwa [show q.add 0 = q from Addr.add_zero' q] at this
  refine ⟨rfl, hc3 4 _ rfl, hc3 3 _ rfl, hc3 2 _ rfl, hc3 1 _ rfl, hc3 1 _ rfl, at0, ?_⟩
  rw [shr_byte hbb, and_byte hbb, w64 (x := a) (by have := ha.1; omega) (by have := ha.2; omega), w64 (x := c2) (by have := hcc.1; omega) (by have := hcc.2; omega)]
  refine o3.put (by rfl) cells_one fun w4 k4 o4 => ?_
  have o1 := (o1d.ex x3).kp k4 (fun x hx => by cases hx; exact fun e => hne e.symm)
  have x4 : Ex w w4 := (x1.trans ((Ex.drew w1).trans x3)).then k4 fun i hi => hi ▸ hge
  refine ⟨(decD [a, b, c2, d, e]).cells.toArray, rfl, o4.cells, ?_⟩
  refine callP.use (Check_spec hwf _) ?_
  rintro _ w5 ⟨rfl, x5⟩
  try dsimp only [dI_i64, dI_u8, dI_u16, dI_u32, dB_bool, dS_slice, dP_ptr, dT_tup, dA_agg, dStr_str, dF_f, dC_c, dM_m, optP_some, ga0, ga1, ga2, ga3, ga4, cond_true, cond_false, chk_true, Bool.not_true, Bool.not_false, Option.isNone_none, Option.isNone_some, List.toList_toArray]
  have x5' := x4.trans x5
  refine cond_of (fun h => ?_) (fun h => ?_)
  · have hc : ¬ chk0 (decD [a, b, c2, d, e]) = 0 := by simpa using h
    refine (o1.ex x5).put (by rfl) cells_one fun w7 k7 o7 => ?_
    refine ⟨zcells.toArray, rfl, o7.cells, Ret.mk ⟨?_, x5'.then k7 fun i hi => by omega⟩⟩
    unfold decV
    rw [if_neg hc, if_neg hc]
  · have hc : chk0 (decD [a, b, c2, d, e]) = 0 := by simpa using h
    refine ⟨(decD [a, b, c2, d, e]).cells.toArray, rfl, (o4.ex x5).cells, chk_of (by rfl) ?_⟩
    refine (o1.ex x5).put (by rfl) cells_one fun w7 k7 o7 => ?_
    refine ⟨(decD [a, b, c2, d, e]).cells.toArray, rfl, o7.cells, Ret.mk ⟨?_, x5'.then k7 fun i hi => by omega⟩⟩
    unfold decV
    rw [if_pos hc, if_pos hc]
end Go.Proofs.Ytnbegeghcjldfaa.G

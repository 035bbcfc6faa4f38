/-
  slices.Chunk; leaf.read, leaf.Count and the document's Count; words for rows.
-/
import Derived.Test.YthgmebhkbbehmaaLeafA
namespace Go.Proofs.Ythgmebhkbbehmaa.G
open Go.Dec Go.RowKit
set_option linter.unusedVariables false
set_option linter.unusedSimpArgs false

theorem Chunk_spec (p : Option Addr) (n c : Nat) (w : World) : slices_Chunk_byte_byte.C p n c 52 w (Ret fun v w' => ∃ q0 q1, v = .func (.func 70) #[] #[.pointer (some ⟨q0, 0, none⟩), .pointer (some ⟨q1, 0, none⟩)] ∧ Ex w w' ∧ Owns w' w.heap.size ty_sl_uint8 1 (some ⟨q0, 0, none⟩) 1 1 [.slice p n c] ∧ Owns w' w.heap.size ty_int 1 (some ⟨q1, 0, none⟩) 1 1 [.int .i64 52]) := by
  apply slices_Chunk_byte_byte.ok
  unfold slices_Chunk_byte_byte.main
  rintro b1 w1 rfl rfl b2 w2 rfl rfl
  have o1 := Owns.new (w := w) [.slice p n c] ty_sl_uint8
  have x1 := Ex.alloc w (.cells [Value.slice p n c].toArray ty_sl_uint8)
  generalize w.alloc (.cells #[.slice p n c] ty_sl_uint8) = w1 at o1 x1 ⊢
  have o2 := Owns.new (w := w1) [.int .i64 52] ty_int
  have x2 := Ex.alloc w1 (.cells [Value.int .i64 52].toArray ty_int)
  generalize w1.alloc (.cells #[.int .i64 52] ty_int) = w2 at o2 x2 ⊢
  refine ⟨52, o2.at (by rfl), ?_⟩
  rw [condd_neg (by omega)]
  exact Ret.mk ⟨_, _, rfl, x1.trans x2, o1.ex x2, o2.lower x1.size⟩
theorem slice_one {p : Option Addr} {n c : Nat} : ∀ y ∈ [Value.slice p n c], y.oneCell' = true := by
  intro y hy
  simp only [List.mem_singleton] at hy
  rw [hy]; rfl
theorem open_ok {xs : List Int} (h : opnE xs = 0) : xs.length = 64 ∧ opnB xs = xs.take 60 := by
  unfold opnE at h
  unfold opnB
  split at h
  · rename_i hl
    rw [if_pos hl]
    split at h
    · rename_i hc
      exact ⟨hl, by rw [if_pos hc]⟩
    · cases h
  · cases h
def fld (xs : List Int) (a s : Int) : Int := Cel.getN (xs.take 60) a s
def hasMagic (xs : List Int) : Prop := opnE xs = 0 ∧ (xs.take 60).take 4 = slat
instance (xs : List Int) : Decidable (hasMagic xs) := inferInstanceAs (Decidable (_ ∧ _))
def hdrC (xs : List Int) : List Int := if hasMagic xs then [fld xs 4 4, fld xs 8 1, fld xs 9 1, fld xs 10 1, fld xs 11 2] else [0, 0, 0, 0, 0]
def hdrOk (xs : List Int) : Bool := decide (hasMagic xs) && decide (1 ≤ fld xs 4 4) && decide (fld xs 4 4 ≤ 1073741824) && decide (fld xs 10 1 < 12)
theorem hdrC_len (xs : List Int) : (hdrC xs).length = 5 := by unfold hdrC; split <;> rfl
theorem v64_one (l : List Int) : ∀ z ∈ Cel.v64 l, z.oneCell' = true := vals_one _ _
theorem slat_str : (⟨#[83, 76, 65, 84]⟩ : ByteArray) = strOf slat := by decide
theorem slat_bytes : Bytes slat := fun x hx => by simp only [slat, List.mem_cons, List.not_mem_nil, or_false] at hx; omega
theorem get1_spec {w : World} {B q0 : Nat} {p : Option Addr} {n c : Nat} {t : List Int} (ob : Owns w B ty_sl_uint8 1 (some ⟨q0, 0, none⟩) 1 1 [.slice p n c]) (hc : CellsO w p (v8 t)) (hn : t.length = n) (hcap : n ≤ c) (hl : n ≤ 1000000) (hb : Bytes t) (a s : Int) (ha : 0 ≤ a ∧ a ≤ 1000) :
    leaf_read_1.C a s q0 w (Ret fun v w' => v = .int .i64 (Cel.getN t a s) ∧ Ex w w') := by
  apply leaf_read_1.ok
  unfold leaf_read_1.main
  refine ⟨p, n, c, ob.at (by rfl), ?_⟩
  refine callP.use (Cel.Get_spec p n c t a s w hc hn hcap (by omega) hb (by omega) (by omega)) ?_
  rintro _ w1 ⟨rfl, x1⟩
  try dsimp only [dI_i64, dI_u8, dI_u16, dI_u32, dB_bool, dS_slice, dP_ptr, dT_tup, dA_agg, dStr_str, dF_f, dC_c, dM_m, optP_some, ga0, ga1, ga2, ga3, ga4, cond_true, cond_false, chk_true, Bool.not_true, Bool.not_false, Option.isNone_none, Option.isNone_some, List.toList_toArray]
  exact Ret.mk ⟨rfl, x1⟩
theorem read_spec (p : Option Addr) (n c : Nat) (xs : List Int) (w : World) (hc : CellsO w p (v8 xs)) (hn : xs.length = n) (hcap : n ≤ c) (hb : Bytes xs) :
    leaf_read.C p n c w (Ret fun v w' => v = .tuple #[.agg (Cel.v64 (hdrC xs)).toArray, .bool (hdrOk xs)] ∧ Ex w w') := by
  apply leaf_read.ok
  unfold leaf_read.main
  rintro b1 w1 rfl rfl
  have o1 := Owns.new (w := w) (Cel.v64 [0, 0, 0, 0, 0]) ty_leaf_header
  have x1 := Ex.alloc w (.cells (Cel.v64 [0, 0, 0, 0, 0]).toArray ty_leaf_header)
  have e1 : w.alloc (.cells #[.int .i64 0, .int .i64 0, .int .i64 0, .int .i64 0, .int .i64 0] ty_leaf_header) = w.alloc (.cells (Cel.v64 [0, 0, 0, 0, 0]).toArray ty_leaf_header) := rfl
  have hge : w.heap.size ≤ w.heap.size := Nat.le_refl _
  generalize hb1 : w.heap.size = b1 at o1 hge ⊢
  have hge : w.heap.size ≤ b1 := by omega
  rw [e1]
  generalize w.alloc (.cells (Cel.v64 [0, 0, 0, 0, 0]).toArray ty_leaf_header) = w1 at o1 x1 ⊢
  refine callP.use (Open_spec p n c xs w1 (hc.ex x1) hn hcap hb) ?_
  rintro _ w2 ⟨p1, n1, c1, rfl, hn1, ot, x2⟩
  try dsimp only [dI_i64, dI_u8, dI_u16, dI_u32, dB_bool, dS_slice, dP_ptr, dT_tup, dA_agg, dStr_str, dF_f, dC_c, dM_m, optP_some, ga0, ga1, ga2, ga3, ga4, cond_true, cond_false, chk_true, Bool.not_true, Bool.not_false, Option.isNone_none, Option.isNone_some, List.toList_toArray]
  rintro b2 w4 rfl rfl
  have o2 := Owns.new (w := w2) [.slice none 0 0] ty_sl_uint8
  have x4 := Ex.alloc w2 (.cells [Value.slice none 0 0].toArray ty_sl_uint8)
  have hb2 : w1.heap.size ≤ w2.heap.size := x2.size
  have hb1lt : b1 < w1.heap.size := (o1.ge rfl).2
  have hw1 : w.heap.size ≤ w1.heap.size := x1.size
  generalize w2.heap.size = b2 at o2 hb2 ⊢
  generalize w2.alloc (.cells #[.slice none 0 0] ty_sl_uint8) = w4 at o2 x4 ⊢
  refine o2.put1 (Nat.lt_succ_self 0) (by rfl) fun w5 k5 o5 => ?_
  have x14 := x2.trans x4
  have n5 : ∀ i, i = b2 → w1.heap.size ≤ i := fun i hi => by omega
  have x15 : Ex w1 w5 := x14.then k5 n5
  have x5 : Ex w w5 := x1.trans x15
  have ot5 : Owns w5 w1.heap.size ty_uint8 1 p1 n1 c1 (v8 (opnB xs)) := (ot.ex x4).away k5 ty_sl_uint8 (fun i hi => by rw [hi]; exact (o2.typed rfl).1) (by decide)
  have o1 := o1.ex x15
  have o5 : Owns w5 b2 ty_sl_uint8 1 (some ⟨b2, 0, none⟩) 1 1 [.slice p1 n1 c1] := o5
  have bad : ∀ {w' : World}, Ex w5 w' → ¬ hasMagic xs → Wr w' (⟨b1, 0, none⟩ : Addr) (Cel.v64 [0, 0, 0, 0, 0]) ∧ ∀ w6, w6 = w'.setCells (⟨b1, 0, none⟩ : Addr).block (⟨b1, 0, none⟩ : Addr).off (Cel.v64 [0, 0, 0, 0, 0]) →
      ∃ cs1 : Array Value, cs1.size = 5 ∧ CellsAt w6 (⟨b1, 0, none⟩ : Addr) cs1.toList ∧ Ret (fun v w' => v = .tuple #[.agg (Cel.v64 (hdrC xs)).toArray, .bool (hdrOk xs)] ∧ Ex w w') (.returned (.tuple #[.agg cs1, .bool false])) w6 := by
    intro w' hx hm
    refine (o1.ex hx).put (by rfl) (v64_one _) fun w6 k6 o6 => ?_
    refine ⟨(Cel.v64 [0, 0, 0, 0, 0]).toArray, rfl, o6.cells, Ret.mk ⟨?_, (x5.trans hx).then k6 fun i hi => by omega⟩⟩
    unfold hdrC hdrOk
    rw [if_neg hm, decide_eq_false hm]
    rfl
  refine cond_of (fun h => ?_) (fun h => ?_)
  · have h : ¬ opnE xs = 0 := by simpa using h
    exact bad (Ex.refl _) (fun m => h m.1)
  have h : opnE xs = 0 := by simpa using h
  obtain ⟨h64, hB⟩ := open_ok h
  rw [hB] at ot5
  have hn1' : n1 = 60 := by have := own_len ot5; rw [List.length_take, h64] at this; exact this.symm
  subst hn1'
  have hcc : 60 ≤ c1 := ot5.2.1
  refine ⟨p1, 60, c1, o5.at (by rfl), ?_⟩
  refine chk_of (decide_eq_true (by omega)) ?_
  rw [slA_zero]
  have ht : (xs.take 60).length = 60 := by rw [List.length_take, h64]; rfl
  have hbt : Bytes (xs.take 60) := hb.take _
  refine ⟨(xs.take 60).take 4, by rw [List.length_take, ht]; rfl, ?_, ?_⟩
  · have := ot5.cells.take 4
    unfold v8 at this
    rwa [← List.map_take] at this
  rw [slat_str, strOf_eq (hbt.take _) slat_bytes]
  refine cond_of (fun hm => ?_) (fun hm => ?_)
  · have hm : ¬ (xs.take 60).take 4 = slat := by simpa using hm
    exact bad (Ex.refl _) (fun m => hm m.2)
  have hm : (xs.take 60).take 4 = slat := by simpa using hm
  have hM : hasMagic xs := ⟨h, hm⟩
  refine callP.use (get1_spec o5 ot5.cells ht hcc (by omega) hbt 4 4 (by omega)) ?_
  rintro _ w8 ⟨rfl, x8⟩
  try dsimp only [dI_i64, dI_u8, dI_u16, dI_u32, dB_bool, dS_slice, dP_ptr, dT_tup, dA_agg, dStr_str, dF_f, dC_c, dM_m, optP_some, ga0, ga1, ga2, ga3, ga4, cond_true, cond_false, chk_true, Bool.not_true, Bool.not_false, Option.isNone_none, Option.isNone_some, List.toList_toArray]
  refine callP.use (get1_spec (o5.ex x8) (ot5.ex x8).cells ht hcc (by omega) hbt 8 1 (by omega)) ?_
  rintro _ w10 ⟨rfl, x10⟩
  try dsimp only [dI_i64, dI_u8, dI_u16, dI_u32, dB_bool, dS_slice, dP_ptr, dT_tup, dA_agg, dStr_str, dF_f, dC_c, dM_m, optP_some, ga0, ga1, ga2, ga3, ga4, cond_true, cond_false, chk_true, Bool.not_true, Bool.not_false, Option.isNone_none, Option.isNone_some, List.toList_toArray]
  have y10 := x8.trans x10
  refine callP.use (get1_spec (o5.ex y10) (ot5.ex y10).cells ht hcc (by omega) hbt 9 1 (by omega)) ?_
  rintro _ w12 ⟨rfl, x12⟩
  try dsimp only [dI_i64, dI_u8, dI_u16, dI_u32, dB_bool, dS_slice, dP_ptr, dT_tup, dA_agg, dStr_str, dF_f, dC_c, dM_m, optP_some, ga0, ga1, ga2, ga3, ga4, cond_true, cond_false, chk_true, Bool.not_true, Bool.not_false, Option.isNone_none, Option.isNone_some, List.toList_toArray]
  have y12 := y10.trans x12
  refine callP.use (get1_spec (o5.ex y12) (ot5.ex y12).cells ht hcc (by omega) hbt 10 1 (by omega)) ?_
  rintro _ w14 ⟨rfl, x14⟩
  try dsimp only [dI_i64, dI_u8, dI_u16, dI_u32, dB_bool, dS_slice, dP_ptr, dT_tup, dA_agg, dStr_str, dF_f, dC_c, dM_m, optP_some, ga0, ga1, ga2, ga3, ga4, cond_true, cond_false, chk_true, Bool.not_true, Bool.not_false, Option.isNone_none, Option.isNone_some, List.toList_toArray]
  have y14 := y12.trans x14
  refine callP.use (get1_spec (o5.ex y14) (ot5.ex y14).cells ht hcc (by omega) hbt 11 2 (by omega)) ?_
  rintro _ w16 ⟨rfl, x16⟩
  try dsimp only [dI_i64, dI_u8, dI_u16, dI_u32, dB_bool, dS_slice, dP_ptr, dT_tup, dA_agg, dStr_str, dF_f, dC_c, dM_m, optP_some, ga0, ga1, ga2, ga3, ga4, cond_true, cond_false, chk_true, Bool.not_true, Bool.not_false, Option.isNone_none, Option.isNone_some, List.toList_toArray]
  have y16 := y14.trans x16
  rintro b3 w18 rfl rfl
  have o3 := Owns.new (w := w16) (Cel.v64 [0, 0, 0, 0, 0]) ty_leaf_header
  have x18 := Ex.alloc w16 (.cells (Cel.v64 [0, 0, 0, 0, 0]).toArray ty_leaf_header)
  have e3 : w16.alloc (.cells #[.int .i64 0, .int .i64 0, .int .i64 0, .int .i64 0, .int .i64 0] ty_leaf_header) = w16.alloc (.cells (Cel.v64 [0, 0, 0, 0, 0]).toArray ty_leaf_header) := rfl
  rw [e3]
  have hb3 : w5.heap.size ≤ w16.heap.size := y16.size
  generalize w16.heap.size = b3 at o3 hb3 ⊢
  generalize w16.alloc (.cells (Cel.v64 [0, 0, 0, 0, 0]).toArray ty_leaf_header) = w18 at o3 x18 ⊢
  refine o3.put (cs := Cel.v64 [fld xs 4 4, fld xs 8 1, fld xs 9 1, fld xs 10 1, fld xs 11 2]) (by rfl) (v64_one _) fun w19 k19 o19 => ?_
  have y19 : Ex w5 w19 := (y16.trans x18).then k19 fun i hi => by omega
  have y19d := y19.trans (Ex.drew w19)
  have o19d := o19.ex (Ex.drew w19)
  have hw5 : b1 < w5.heap.size := (o1.ge rfl).2
  have hne : b3 ≠ b1 := by omega
  have eC : hdrC xs = [fld xs 4 4, fld xs 8 1, fld xs 9 1, fld xs 10 1, fld xs 11 2] := by unfold hdrC; rw [if_pos hM]
  have fin : ∀ (g : Bool), g = hdrOk xs → ∀ {N : World → Prop}, (∀ w20, Owns w20 b3 ty_leaf_header 5 (some ⟨b3, 0, none⟩) 1 1 (Cel.v64 [fld xs 4 4, fld xs 8 1, fld xs 9 1, fld xs 10 1, fld xs 11 2]) → (∃ cs4 : Array Value, cs4.size = 5 ∧ CellsAt w20 (⟨b1, 0, none⟩ : Addr) cs4.toList ∧ Ret (fun v w' => v = .tuple #[.agg (Cel.v64 (hdrC xs)).toArray, .bool (hdrOk xs)] ∧ Ex w w') (.returned (.tuple #[.agg cs4, .bool g])) w20) → N w20) →
      Wr w19.drew (⟨b1, 0, none⟩ : Addr) (Cel.v64 [fld xs 4 4, fld xs 8 1, fld xs 9 1, fld xs 10 1, fld xs 11 2]) ∧ ∀ w20, w20 = w19.drew.setCells (⟨b1, 0, none⟩ : Addr).block (⟨b1, 0, none⟩ : Addr).off (Cel.v64 [fld xs 4 4, fld xs 8 1, fld xs 9 1, fld xs 10 1, fld xs 11 2]) → N w20 := by
    intro g hg N K
    refine (o1.ex y19d).put (by rfl) (v64_one _) fun w20 k20 o20 => K w20 (o19d.kp k20 fun y hy => by cases hy; exact hne) ?_
    refine ⟨(Cel.v64 (hdrC xs)).toArray, by rw [List.size_toArray]; unfold Cel.v64; rw [List.length_map]; exact hdrC_len xs, by rw [eC]; exact o20.cells, Ret.mk ⟨by rw [hg], (x5.trans y19d).then k20 fun i hi => by omega⟩⟩
  refine ⟨(Cel.v64 [fld xs 4 4, fld xs 8 1, fld xs 9 1, fld xs 10 1, fld xs 11 2]).toArray, rfl, o19d.cells, fld xs 4 4, o19d.at (by rfl), ?_⟩
  refine cond_of (fun h1 => ?_) (fun h1 => ?_)
  · have h1 := of_decide_eq_true h1
    refine ⟨fld xs 4 4, o19d.at (by rfl), ?_⟩
    refine cond_of (fun h2 => ?_) (fun h2 => ?_)
    · have h2 := of_decide_eq_true h2
      refine ⟨fld xs 10 1, o19d.at (by rfl), chk_of (by rfl) ?_⟩
      refine fin (decide (fld xs 10 1 < 12)) ?_ ?_
      · unfold hdrOk
        rw [decide_eq_true hM, decide_eq_true (show 1 ≤ fld xs 4 4 from h1), decide_eq_true h2]
        rfl
      · intro w20 o h
        exact ⟨o.at (by rfl), h⟩
    · have h2 := of_decide_eq_false h2
      refine chk_of (by rfl) ?_
      refine fin false ?_ fun w20 o h => h
      unfold hdrOk
      rw [decide_eq_false h2]
      simp
  · have h1 := of_decide_eq_false h1
    refine chk_of (by rfl) ?_
    refine fin false ?_ fun w20 o h => h
    unfold hdrOk
    rw [decide_eq_false (show ¬ 1 ≤ fld xs 4 4 from h1)]
    simp
def cntR (xs : List Int) : List Int := if hdrOk xs then [fld xs 10 1, fld xs 4 4, 0] else [0, 0, 11]
theorem Count_spec (p : Option Addr) (n c : Nat) (xs : List Int) (w : World) (hc : CellsO w p (v8 xs)) (hn : xs.length = n) (hcap : n ≤ c) (hb : Bytes xs) :
    leaf_Count.C p n c w (Ret fun v w' => v = .tuple (Cel.v64 (cntR xs)).toArray ∧ Ex w w') := by
  apply leaf_Count.ok
  unfold leaf_Count.main
  refine callP.use (read_spec p n c xs w hc hn hcap hb) ?_
  rintro _ w1 ⟨rfl, x1⟩
  try dsimp only [dI_i64, dI_u8, dI_u16, dI_u32, dB_bool, dS_slice, dP_ptr, dT_tup, dA_agg, dStr_str, dF_f, dC_c, dM_m, optP_some, ga0, ga1, ga2, ga3, ga4, cond_true, cond_false, chk_true, Bool.not_true, Bool.not_false, Option.isNone_none, Option.isNone_some, List.toList_toArray]
  rintro b2 w3 rfl rfl
  have o2 := Owns.new (w := w1) (Cel.v64 [0, 0, 0, 0, 0]) ty_leaf_header
  have x3 := Ex.alloc w1 (.cells (Cel.v64 [0, 0, 0, 0, 0]).toArray ty_leaf_header)
  have e1 : w1.alloc (.cells #[.int .i64 0, .int .i64 0, .int .i64 0, .int .i64 0, .int .i64 0] ty_leaf_header) = w1.alloc (.cells (Cel.v64 [0, 0, 0, 0, 0]).toArray ty_leaf_header) := rfl
  rw [e1]
  have hb2 := x1.size
  generalize w1.heap.size = b2 at o2 hb2 ⊢
  generalize w1.alloc (.cells (Cel.v64 [0, 0, 0, 0, 0]).toArray ty_leaf_header) = w3 at o2 x3 ⊢
  have hlen : (Cel.v64 (hdrC xs)).length = 5 := by unfold Cel.v64; rw [List.length_map]; exact hdrC_len xs
  refine chk_of (decide_eq_true (by rw [List.size_toArray]; exact hlen)) ?_
  refine o2.put (cs := Cel.v64 (hdrC xs)) hlen (v64_one _) fun w4 k4 o4 => ?_
  have x4 : Ex w w4 := (x1.trans x3).then k4 fun i hi => by omega
  unfold cntR
  cases ho : hdrOk xs with
  | false =>
    simp only [Bool.not_true, Bool.not_false, cond_true, cond_false]
    exact Ret.mk ⟨rfl, x4⟩
  | true =>
    simp only [Bool.not_true, Bool.not_false, cond_true, cond_false]
    have hM : hasMagic xs := by
      unfold hdrOk at ho
      simp only [Bool.and_eq_true, decide_eq_true_eq] at ho
      exact ho.1.1.1
    have eC : hdrC xs = [fld xs 4 4, fld xs 8 1, fld xs 9 1, fld xs 10 1, fld xs 11 2] := by unfold hdrC; rw [if_pos hM]
    rw [eC] at o4
    refine ⟨fld xs 10 1, o4.at (by rfl), fld xs 4 4, o4.at (by rfl), fun k => ?_⟩
    exact Ret.mk ⟨rfl, x4.trans (Ex.drewN _ _)⟩
theorem number_spec {w : World} {p : Option Addr} {n c : Nat} {t : List Int} (hc : CellsO w p (v8 t)) (hn : t.length = n) (hl : n ≤ 1000000) (hb : Bytes t) (a s : Int) (ha : 0 ≤ a ∧ a ≤ 1000) :
    stopcockref13_number.C p n c a s w (Ret fun v w' => v = .int .i64 (Cel.getN t a s) ∧ Ex w w') := by
  apply stopcockref13_number.ok
  unfold stopcockref13_number.main
  refine callP.use (Cel.refGet_spec p n c t a s w hc hn (by omega) hb (by omega) (by omega)) ?_
  rintro _ w1 ⟨rfl, x1⟩
  try dsimp only [dI_i64, dI_u8, dI_u16, dI_u32, dB_bool, dS_slice, dP_ptr, dT_tup, dA_agg, dStr_str, dF_f, dC_c, dM_m, optP_some, ga0, ga1, ga2, ga3, ga4, cond_true, cond_false, chk_true, Bool.not_true, Bool.not_false, Option.isNone_none, Option.isNone_some, List.toList_toArray]
  exact Ret.mk ⟨rfl, x1⟩
theorem refCount_spec (p : Option Addr) (n c : Nat) (xs : List Int) (w : World) (hc : CellsO w p (v8 xs)) (hn : xs.length = n) (hcap : n ≤ c) (hb : Bytes xs) :
    stopcockref13_Count.C p n c w (Ret fun v w' => v = .tuple (Cel.v64 (cntR xs)).toArray ∧ Ex w w') := by
  apply stopcockref13_Count.ok
  unfold stopcockref13_Count.main
  refine callP.use (refOpen_spec p n c xs w hc hn hcap hb) ?_
  rintro _ w1 ⟨p1, n1, c1, rfl, hn1, ot, x1⟩
  try dsimp only [dI_i64, dI_u8, dI_u16, dI_u32, dB_bool, dS_slice, dP_ptr, dT_tup, dA_agg, dStr_str, dF_f, dC_c, dM_m, optP_some, ga0, ga1, ga2, ga3, ga4, cond_true, cond_false, chk_true, Bool.not_true, Bool.not_false, Option.isNone_none, Option.isNone_some, List.toList_toArray]
  have bad : ∀ {w' : World}, Ex w w' → hdrOk xs = false → Ret (fun v w' => v = .tuple (Cel.v64 (cntR xs)).toArray ∧ Ex w w') (.returned (.tuple #[.int .i64 0, .int .i64 0, .int .i64 11])) w' := fun hx h => by
    unfold cntR
    rw [h]
    exact Ret.mk ⟨rfl, hx⟩
  refine cond_of (fun h => ?_) (fun h => ?_)
  · have h : ¬ opnE xs = 0 := by simpa using h
    have : ¬ hasMagic xs := fun m => h m.1
    exact bad x1 (by unfold hdrOk; rw [decide_eq_false this]; rfl)
  have h : opnE xs = 0 := by simpa using h
  obtain ⟨h64, hB⟩ := open_ok h
  rw [hB] at ot
  have hn1' : n1 = 60 := by have := own_len ot; rw [List.length_take, h64] at this; exact this.symm
  subst hn1'
  have hcc : 60 ≤ c1 := ot.2.1
  refine chk_of (decide_eq_true (by omega)) ?_
  rw [slA_zero]
  have ht : (xs.take 60).length = 60 := by rw [List.length_take, h64]; rfl
  have hbt : Bytes (xs.take 60) := hb.take _
  refine ⟨(xs.take 60).take 4, by rw [List.length_take, ht]; rfl, ?_, ?_⟩
  · have := ot.cells.take 4
    unfold v8 at this
    rwa [← List.map_take] at this
  rw [slat_str, strOf_eq (hbt.take _) slat_bytes]
  refine cond_of (fun hm => ?_) (fun hm => ?_)
  · have hm : ¬ (xs.take 60).take 4 = slat := by simpa using hm
    have : ¬ hasMagic xs := fun m => hm m.2
    exact bad x1 (by unfold hdrOk; rw [decide_eq_false this]; rfl)
  have hm : (xs.take 60).take 4 = slat := by simpa using hm
  have hM : hasMagic xs := ⟨h, hm⟩
  refine callP.use (number_spec ot.cells ht (by omega) hbt 4 4 (by omega)) ?_
  rintro _ w3 ⟨rfl, x3⟩
  try dsimp only [dI_i64, dI_u8, dI_u16, dI_u32, dB_bool, dS_slice, dP_ptr, dT_tup, dA_agg, dStr_str, dF_f, dC_c, dM_m, optP_some, ga0, ga1, ga2, ga3, ga4, cond_true, cond_false, chk_true, Bool.not_true, Bool.not_false, Option.isNone_none, Option.isNone_some, List.toList_toArray]
  refine cond_of (fun h1 => ?_) (fun h1 => ?_)
  · have h1 : fld xs 4 4 < 1 := of_decide_eq_true h1
    exact bad (x1.trans x3) (by unfold hdrOk; rw [decide_eq_false (show ¬ 1 ≤ fld xs 4 4 by omega)]; simp)
  have h1 : ¬ fld xs 4 4 < 1 := of_decide_eq_false h1
  refine callP.use (number_spec (ot.ex x3).cells ht (by omega) hbt 4 4 (by omega)) ?_
  rintro _ w5 ⟨rfl, x5⟩
  try dsimp only [dI_i64, dI_u8, dI_u16, dI_u32, dB_bool, dS_slice, dP_ptr, dT_tup, dA_agg, dStr_str, dF_f, dC_c, dM_m, optP_some, ga0, ga1, ga2, ga3, ga4, cond_true, cond_false, chk_true, Bool.not_true, Bool.not_false, Option.isNone_none, Option.isNone_some, List.toList_toArray]
  have y5 := x3.trans x5
  refine cond_of (fun h2 => ?_) (fun h2 => ?_)
  · have h2 : fld xs 4 4 > 1073741824 := of_decide_eq_true h2
    exact bad (x1.trans y5) (by unfold hdrOk; rw [decide_eq_false (show ¬ fld xs 4 4 ≤ 1073741824 by omega)]; simp)
  have h2 : ¬ fld xs 4 4 > 1073741824 := of_decide_eq_false h2
  refine callP.use (number_spec (ot.ex y5).cells ht (by omega) hbt 10 1 (by omega)) ?_
  rintro _ w7 ⟨rfl, x7⟩
  try dsimp only [dI_i64, dI_u8, dI_u16, dI_u32, dB_bool, dS_slice, dP_ptr, dT_tup, dA_agg, dStr_str, dF_f, dC_c, dM_m, optP_some, ga0, ga1, ga2, ga3, ga4, cond_true, cond_false, chk_true, Bool.not_true, Bool.not_false, Option.isNone_none, Option.isNone_some, List.toList_toArray]
  have y7 := y5.trans x7
  refine cond_of (fun h3 => ?_) (fun h3 => ?_)
  · have h3 : fld xs 10 1 > 11 := of_decide_eq_true h3
    exact bad (x1.trans y7) (by unfold hdrOk; rw [decide_eq_false (show ¬ fld xs 10 1 < 12 by omega)]; simp)
  have h3 : ¬ fld xs 10 1 > 11 := of_decide_eq_false h3
  refine callP.use (number_spec (ot.ex y7).cells ht (by omega) hbt 10 1 (by omega)) ?_
  rintro _ w9 ⟨rfl, x9⟩
  try dsimp only [dI_i64, dI_u8, dI_u16, dI_u32, dB_bool, dS_slice, dP_ptr, dT_tup, dA_agg, dStr_str, dF_f, dC_c, dM_m, optP_some, ga0, ga1, ga2, ga3, ga4, cond_true, cond_false, chk_true, Bool.not_true, Bool.not_false, Option.isNone_none, Option.isNone_some, List.toList_toArray]
  have y9 := y7.trans x9
  refine callP.use (number_spec (ot.ex y9).cells ht (by omega) hbt 4 4 (by omega)) ?_
  rintro _ w11 ⟨rfl, x11⟩
  try dsimp only [dI_i64, dI_u8, dI_u16, dI_u32, dB_bool, dS_slice, dP_ptr, dT_tup, dA_agg, dStr_str, dF_f, dC_c, dM_m, optP_some, ga0, ga1, ga2, ga3, ga4, cond_true, cond_false, chk_true, Bool.not_true, Bool.not_false, Option.isNone_none, Option.isNone_some, List.toList_toArray]
  refine Ret.mk ⟨?_, x1.trans (y9.trans x11)⟩
  have : hdrOk xs = true := by
    unfold hdrOk
    rw [decide_eq_true hM, decide_eq_true (show 1 ≤ fld xs 4 4 by omega), decide_eq_true (show fld xs 4 4 ≤ 1073741824 by omega), decide_eq_true (show fld xs 10 1 < 12 by omega)]
    rfl
  unfold cntR
  rw [this]
  rfl
/-- a part of a row is written -/
theorem putAt {w : World} {B : Nat} {e : TypeId} {sz b n c : Nat} {xs : List Value} (ho : Owns w B e sz (some ⟨b, 0, none⟩) n c xs) (o : Nat) {ys : List Value} (h : o + ys.length ≤ n * sz) (h1 : ∀ y ∈ ys, y.oneCell' = true) {N : World → Prop}
    (K : ∀ w2, Kp w w2 (fun i => i = b) → Owns w2 B e sz (some ⟨b, 0, none⟩) n c (xs.take o ++ ys ++ xs.drop (o + ys.length)) → N w2) :
    Wr w ((⟨b, 0, none⟩ : Addr).add o) ys ∧ ∀ w2, w2 = w.setCells ((⟨b, 0, none⟩ : Addr).add o).block ((⟨b, 0, none⟩ : Addr).add o).off ys → N w2 := by
  obtain ⟨k1, k2, k3⟩ := ho.writes o ys h h1
  refine ⟨k1, fun w2 hw => ?_⟩
  have e1 : setO w (some ⟨b, 0, none⟩) o ys = w2 := by
    rw [hw]
    have : (⟨b, 0, none⟩ : Addr).add o = ⟨b, o, none⟩ := by rw [Addr.add_lit]; simp
    rw [this]
    simp [setO]
  rw [e1] at k2 k3
  exact K w2 (k3.mono fun i _ ⟨x, hx, hi⟩ => by cases hx; exact hi.symm) k2
theorem v8_drop (xs : List Int) (n : Nat) : v8 (xs.drop n) = (v8 xs).drop n := by simp [v8, List.map_drop]
/-- a list of bytes, from a place on -/
theorem from_ {w : World} {p : Option Addr} {c : Nat} {xs : List Int} (h : CellsO w p (v8 xs)) (hc : xs.length ≤ c) (i : Nat) : CellsO w (slA p c i 1) (v8 (xs.drop i)) := by
  have := h.slice c i xs.length (by rw [v8_len]; exact hc)
  rw [v8_drop]
  rwa [List.take_of_length_le (by rw [List.length_drop, v8_len]; omega)] at this
end Go.Proofs.Ythgmebhkbbehmaa.G

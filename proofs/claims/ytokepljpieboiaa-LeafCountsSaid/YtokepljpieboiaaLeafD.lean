/-
  leaf.Encode of the empty state: the round, the header, the whole.
-/
import Derived.Test.YtokepljpieboiaaLeafC
namespace Go.Proofs.Ytokepljpieboiaa.G
open Go.Dec Go.RowKit
set_option linter.unusedVariables false
set_option linter.unusedSimpArgs false

def zeros : List Int := List.replicate 16 0
def text1 : List Int := [0, 0, 0, 5, 0, 16] ++ zeros
def page1 : List Int := sealed text1
theorem zeros_bytes : Bytes zeros := Bytes.zeros 16
theorem text1_bytes : Bytes text1 := Bytes.append (fun x hx => by simp only [List.mem_cons, List.not_mem_nil, or_false] at hx; omega) zeros_bytes
theorem row016 : Cel.rowB 1 [0, 16] = [0, 16] := by decide

/-! ### Chunk -/
theorem Chunk_spec (p : Option Addr) (n c : Nat) (w : World) : slices_Chunk_byte_byte.C p n c 52 w (Ret fun v w' => ∃ q0 q1, v = .func (.func 51) #[] #[.pointer (some ⟨q0, 0, none⟩), .pointer (some ⟨q1, 0, none⟩)] ∧ Ex w w' ∧ Owns w' w.heap.size ty_sl_uint8 1 (some ⟨q0, 0, none⟩) 1 1 [.slice p n c] ∧ Owns w' w.heap.size ty_int 1 (some ⟨q1, 0, none⟩) 1 1 [.int .i64 52]) := by
  apply slices_Chunk_byte_byte.ok
  unfold slices_Chunk_byte_byte.main
  rintro b1 w1 rfl rfl b2 w2 rfl rfl
  have o1 := Owns.new (w := w) [.slice p n c] ty_sl_uint8
  have x1 := Ex.alloc w (.cells [Value.slice p n c].toArray ty_sl_uint8)
  generalize w.alloc (.cells #[.slice p n c] ty_sl_uint8) = w1 at o1 x1 ⊢
  have o2 := Owns.new (w := w1) [.int .i64 52] ty_int
  have x2 := Ex.alloc w1 (.cells [Value.int .i64 52].toArray ty_int)
  generalize w1.alloc (.cells #[.int .i64 52] ty_int) = w2 at o2 x2 ⊢
  refine ⟨52, o2.at (by rfl), ?_⟩
  rw [condd_neg (by omega)]
  exact Ret.mk ⟨_, _, rfl, x1.trans x2, o1.ex x2, o2.lower x1.size⟩
theorem min2_52 {n : Int} (h : n ≤ 52) : min2 52 n = n := by unfold min2; split <;> omega
theorem Chunk_seq {w : World} {B1 B2 q0 q1 : Nat} {p : Option Addr} {n c : Nat} (o0 : Owns w B1 ty_sl_uint8 1 (some ⟨q0, 0, none⟩) 1 1 [.slice p n c]) (o1 : Owns w B2 ty_int 1 (some ⟨q1, 0, none⟩) 1 1 [.int .i64 52]) (hn : 1 ≤ n ∧ n ≤ 52) (hcap : n ≤ c) :
    SeqStopsK Fence.wide 0 Try.prog 51 #[.pointer (some ⟨q0, 0, none⟩), .pointer (some ⟨q1, 0, none⟩)] (fun (_ : Unit) => #[.slice p n n]) (Keep2 q0 q1) (fun xs => xs = [()]) (fun xs => xs = [()]) 1 w := by
  intro l J Jx W hb hJ hJx hy h0
  have x := Kp.of_below hb
  have p0 := o0.kp x (fun a ha => by cases ha; have := (o0.ge rfl).2; dsimp only at this ⊢; omega)
  have p1 := o1.kp x (fun a ha => by cases ha; have := (o1.ge rfl).2; dsimp only at this ⊢; omega)
  show slices_Chunk_byte_byte_1_y.C l q0 q1 W _
  apply slices_Chunk_byte_byte_1_y.ok
  unfold slices_Chunk_byte_byte_1_y.main slices_Chunk_byte_byte_1_y.l1
  refine ⟨fun t0 t1 t2 t4 w' => l = t0 ∧ q0 = t1 ∧ q1 = t2 ∧ Cells2 q0 q1 (.slice p n c) (.int .i64 52) w' ∧ (t4 = 0 ∧ J [] w' ∨ t4 = 52 ∧ J [()] w'), fun t0 t1 t2 t4 w' => (52 - t4).toNat, ⟨rfl, rfl, rfl, ⟨p0.at (by rfl), p1.at (by rfl)⟩, .inl ⟨rfl, h0⟩⟩, ?_⟩
  rintro _ _ _ t4 w' ⟨rfl, rfl, rfl, ⟨c0, c1⟩, ht⟩
  unfold slices_Chunk_byte_byte_1_y.b1
  refine ⟨p, n, c, c0, ?_⟩
  rcases ht with ⟨rfl, hj⟩ | ⟨rfl, hj⟩
  · rw [condd_pos (by omega)]
    refine ⟨52, c1, p, n, c, c0, chk_of (by decide) (chk_of (decide_eq_true (by omega)) ⟨p, n, c, c0, ?_⟩)⟩
    have e1 : (((n - (0 : Int).toNat) : Nat) : Int) = (n : Int) := rfl
    rw [e1, min2_52 (by omega), Int.zero_add, w64 (by omega) (by omega), Int.toNat_natCast]
    refine chk_of (decide_eq_true (by omega)) (chk_of (decide_eq_true (by omega)) (chk_of (decide_eq_true (by omega)) (chk_of (decide_eq_true (by omega)) (chk_of (by decide) (chk_of (decide_eq_true (by omega)) ?_)))))
    have e2 : (Value.slice (slA p n (0 : Int).toNat 1) (n - (0 : Int).toNat) (n - (0 : Int).toNat)) = Value.slice p n n := by
      show Value.slice (slA p n 0 1) (n - 0) (n - 0) = _
      rw [slA_zero, Nat.sub_zero]
    rw [e2]
    have hj' : J [] w'.drew := hJ _ _ _ none hj (grown_drew w') (fun r e => by cases e)
    obtain ⟨fn, tmps, assign, body, hrun, hround⟩ := hy [] () w'.drew hj' (by decide)
    refine ⟨fn, tmps, assign, body, hrun, hround.mono fun e w1 he => ?_⟩
    rcases he with ⟨rfl, hj1, hk⟩ | ⟨rfl, hj1⟩
    · refine ⟨_, rfl, ?_⟩
      try dsimp only [dI_i64, dI_u8, dI_u16, dI_u32, dB_bool, dS_slice, dP_ptr, dT_tup, dA_agg, dStr_str, dF_f, dC_c, dM_m, optP_some, ga0, ga1, ga2, ga3, ga4, cond_true, cond_false, chk_true, Bool.not_true, Bool.not_false, Option.isNone_none, Option.isNone_some, List.toList_toArray]
      have hk' := hk _ _ ⟨c0, c1⟩
      refine ⟨52, hk'.2, ?_⟩
      rw [Int.zero_add, w64 (by omega) (by omega)]
      exact ⟨⟨rfl, rfl, rfl, hk', .inr ⟨rfl, hj1⟩⟩, by ((try dsimp only); omega)⟩
    · refine ⟨_, rfl, ?_⟩
      try dsimp only [dI_i64, dI_u8, dI_u16, dI_u32, dB_bool, dS_slice, dP_ptr, dT_tup, dA_agg, dStr_str, dF_f, dC_c, dM_m, optP_some, ga0, ga1, ga2, ga3, ga4, cond_true, cond_false, chk_true, Bool.not_true, Bool.not_false, Option.isNone_none, Option.isNone_some, List.toList_toArray]
      exact ⟨⟨_, rfl⟩, .inr ⟨_, rfl, hj1⟩⟩
  · rw [condd_neg (by omega)]
    exact ⟨⟨_, rfl⟩, .inl ⟨_, rfl, hj⟩⟩

/-! ### The round -/
structure CtxB (W : World) (b3 b4 : Nat) (p2 : Option Addr) : Prop where
  k3 : Owns W 0 ty_int 1 (some ⟨b3, 0, none⟩) 1 1 [.int .i64 5]
  k4 : Owns W 0 ty_sl_sl_uint8 1 (some ⟨b4, 0, none⟩) 1 1 [.slice none 0 0]
  part : CellsO W p2 (v8 zeros)
section
variable {α : Type} {Kq : World → World → Prop} {I : List α → World → Prop} {pre : List α} {x : α} {W : World} {b3 b4 : Nat} {p2 : Option Addr}
def EndB (Kq : World → World → Prop) (I : List α → World → Prop) (pre : List α) (x : α) (W : World) (b4 : Nat) : Prop :=
  ∀ (p8 : Option Addr) (c8 : Nat) (p9 : Option Addr) (c9 : Nat) (w24 : World), Ex W w24 → Owns w24 W.heap.size ty_uint8 1 p8 64 c8 (v8 page1) → Owns w24 W.heap.size ty_sl_uint8 1 p9 1 c9 [.slice p8 64 c8] → leaf_Encode.o1 α Kq I pre x w24 b4 p9 0 c9 W
theorem slice_one {p : Option Addr} {n c : Nat} : ∀ y ∈ [Value.slice p n c], y.oneCell' = true := by
  intro y hy
  simp only [List.mem_singleton] at hy
  rw [hy]; rfl
theorem U3 (c : CtxB W b3 b4 p2) (en : EndB Kq I pre x W b4) {w : World} (hx : Ex W w) {p8 : Option Addr} {c8 : Nat} (o : Owns w W.heap.size ty_uint8 1 p8 64 c8 (v8 page1)) : leaf_Encode.o3 α Kq I pre x w p8 64 c8 b4 none 0 0 W := by
  unfold leaf_Encode.o3
  rintro b7 w23 rfl rfl
  have o7 := Owns.new (w := w) [.slice p8 64 c8] ty_sl_uint8
  have x7 := Ex.alloc w (.cells [Value.slice p8 64 c8].toArray ty_sl_uint8)
  generalize w.alloc (.cells #[.slice p8 64 c8] ty_sl_uint8) = w23 at o7 x7 ⊢
  refine ⟨(c.k4.ex (hx.trans x7)).at (by rfl), ?_⟩
  unfold leaf_Encode.o2
  refine appP_own (B := W.heap.size) (Owns.nil w23 W.heap.size ty_sl_uint8 1) (hx.trans x7).size [.slice p8 64 c8] o7.cells rfl slice_one rfl (by omega) (by omega) ?_
  intro p9 c9 w24 o9 k9
  have x9 : Ex w23 w24 := k9.mono fun i _ ⟨y, e, _⟩ => by cases e
  exact en p8 c8 p9 c9 w24 ((hx.trans x7).trans x9) ((o.ex x7).ex x9) o9
theorem U5 (c : CtxB W b3 b4 p2) (en : EndB Kq I pre x W b4) {w : World} (hx : Ex W w) {p6 : Option Addr} {c6 : Nat} (s : Sl W w p6 6 c6 [0, 0, 0, 5, 0, 16]) : leaf_Encode.o5 α Kq I pre x w p6 6 c6 16 p2 b4 none 0 0 W := by
  unfold leaf_Encode.o5
  refine appP_own (B := W.heap.size) s hx.size (v8 zeros) (CellsO.ex hx c.part) rfl (v8_one _) rfl (by omega) (by omega) ?_
  intro p7 c7 w20 o7 k7
  have x7 : Ex W w20 := hx.then k7 fun i ⟨y, e, hi⟩ => by have := (Owns.ge s e).1; omega
  refine ⟨(c.k4.ex x7).at (by rfl), ?_⟩
  unfold leaf_Encode.o4
  have o7 : Owns w20 W.heap.size ty_uint8 1 p7 (6 + 16) c7 (v8 text1) := by unfold text1; rw [← v8_app]; exact o7
  refine callP.use (sealed_spec p7 (6 + 16) c7 text1 w20 o7.cells (by decide) text1_bytes (by omega)) ?_
  rintro _ w21 ⟨p8, c8, rfl, o8, x8⟩
  try dsimp only [dI_i64, dI_u8, dI_u16, dI_u32, dB_bool, dS_slice, dP_ptr, dT_tup, dA_agg, dStr_str, dF_f, dC_c, dM_m, optP_some, ga0, ga1, ga2, ga3, ga4, cond_true, cond_false, chk_true, Bool.not_true, Bool.not_false, Option.isNone_none, Option.isNone_some, List.toList_toArray]
  refine ⟨(c.k4.ex (x7.trans x8)).at (by rfl), ?_⟩
  exact U3 c en (x7.trans x8) (o8.lower x7.size)
theorem U6 (c : CtxB W b3 b4 p2) (en : EndB Kq I pre x W b4) {w : World} (hx : Ex W w) {p5 : Option Addr} {c5 b6 : Nat} (s : Sl W w p5 4 c5 [0, 0, 0, 5]) (h6 : Bx w b6 [0, 16]) : leaf_Encode.o6 α Kq I pre x p5 4 c5 b6 w b4 none 0 0 16 p2 W := by
  unfold leaf_Encode.o6
  refine putX hx s h6 row016 (by omega) (by decide) fun p c' w' x g h => ?_
  dsimp only [dS_slice]
  exact ⟨(c.k4.ex x).at (by rfl), U5 c en x h⟩
theorem put0 {w : World} {N : Value → World → Prop} {X : List PanicEntry → World → Prop} (hx : Ex W w) {b5 : Nat} (h5 : Bx w b5 [5])
    (K : ∀ p c w', Ex W w' → (∀ b l, Bx w b l → Bx w' b l) → Sl W w' p 4 c [0, 0, 0, 5] → N (.slice p 4 c) w') : callP Try.prog 34 #[.slice none 0 0, .int .i64 4, .slice (some ⟨b5, 0, none⟩) 1 1] w N X :=
  putX hx (p := none) (n := 0) (c := 0) (xs := []) (Owns.nil _ _ _ _) h5 row5 (by omega) (by decide) K
theorem U7 (c : CtxB W b3 b4 p2) (en : EndB Kq I pre x W b4) {w : World} (hx : Ex W w) {p5 : Option Addr} {c5 : Nat} (s : Sl W w p5 4 c5 [0, 0, 0, 5]) : leaf_Encode.o7 α Kq I pre x w 0 16 b4 none 0 0 p5 4 c5 p2 W := by
  unfold leaf_Encode.o7
  refine newBx hx [0, 16] fun b6 w17 x h => ?_
  exact ⟨(c.k4.ex (hx.trans x)).at (by rfl), U6 c en (hx.trans x) (s.ex x) h⟩
theorem U8 (c : CtxB W b3 b4 p2) (en : EndB Kq I pre x W b4) {w : World} (hx : Ex W w) {b5 b8 : Nat} (h5 : Bx w b5 [5]) (h8 : Bx w b8 [0, 16]) : leaf_Encode.o8 α Kq I pre x b5 w b4 none 0 0 b8 16 p2 W := by
  unfold leaf_Encode.o8
  refine put0 hx h5 fun p c' w' x g h => ?_
  dsimp only [dS_slice]
  exact ⟨(c.k4.ex x).at (by rfl), U6 c en x h (g _ _ h8)⟩
theorem U9 (c : CtxB W b3 b4 p2) (en : EndB Kq I pre x W b4) {w : World} (hx : Ex W w) {b5 : Nat} (h5 : Bx w b5 [5]) : leaf_Encode.o9 α Kq I pre x b5 w b4 none 0 0 none 0 0 16 p2 W := by
  unfold leaf_Encode.o9
  refine ⟨?_, ?_⟩
  · refine put0 hx h5 fun p c' w' x g h => ?_
    dsimp only [dS_slice]
    exact ⟨(c.k4.ex x).at (by rfl), (c.k4.ex x).at (by rfl), U7 c en x h⟩
  · refine newBx hx [0, 16] fun b8 w26 x h => ?_
    exact ⟨(c.k4.ex (hx.trans x)).at (by rfl), U8 c en (hx.trans x) (h5.ex x) h⟩
theorem U10 (c : CtxB W b3 b4 p2) (en : EndB Kq I pre x W b4) {w : World} (hx : Ex W w) {b10 : Nat} (h10 : Bx w b10 [0, 16]) : leaf_Encode.o10 α Kq I pre x w 5 b4 none 0 0 b10 16 p2 W := by
  unfold leaf_Encode.o10
  refine newBx hx [5] fun b11 w38 x h => ?_
  exact ⟨(c.k4.ex (hx.trans x)).at (by rfl), U8 c en (hx.trans x) h (h10.ex x)⟩
theorem U11 (c : CtxB W b3 b4 p2) (en : EndB Kq I pre x W b4) : leaf_Encode.o11 α Kq I pre x W 5 b4 none 0 0 none 0 0 16 p2 b3 := by
  unfold leaf_Encode.o11
  have hx := Ex.drew W
  refine ⟨?_, ?_⟩
  · refine newBx hx [5] fun b5 w14 x h => ?_
    exact ⟨(c.k4.ex (hx.trans x)).at (by rfl), (c.k4.ex (hx.trans x)).at (by rfl), U9 c en (hx.trans x) h⟩
  · refine newBx hx [0, 16] fun b10 w37 x h => ?_
    exact ⟨(c.k3.ex (hx.trans x)).at (by rfl), (c.k4.ex (hx.trans x)).at (by rfl), U10 c en (hx.trans x) h⟩
end
end Go.Proofs.Ytokepljpieboiaa.G

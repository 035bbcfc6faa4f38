/-
  leaf.Encode of the empty state: the round, the header, the whole.
-/
import Derived.Test.YtokepljpieboiaaLeafC
namespace Go.Proofs.Ytokepljpieboiaa.G
open Go.Dec Go.RowKit
set_option linter.unusedVariables false
set_option linter.unusedSimpArgs false

def zeros : List Int := List.replicate 16 0
def text1 : List Int := [0, 0, 0, 5, 0, 16] ++ zeros
def page1 : List Int := sealed text1
theorem zeros_bytes : Bytes zeros := Bytes.zeros 16
theorem text1_bytes : Bytes text1 := Bytes.append (fun x hx => by simp only [List.mem_cons, List.not_mem_nil, or_false] at hx; omega) zeros_bytes
theorem row016 : Cel.rowB 1 [0, 16] = [0, 16] := by decide

/-! ### Chunk -/
theorem Chunk_spec (p : Option Addr) (n c : Nat) (w : World) : slices_Chunk_byte_byte.C p n c 52 w (Ret fun v w' => ∃ q0 q1, v = .func (.func 51) #[] #[.pointer (some ⟨q0, 0, none⟩), .pointer (some ⟨q1, 0, none⟩)] ∧ Ex w w' ∧ Owns w' w.heap.size ty_sl_uint8 1 (some ⟨q0, 0, none⟩) 1 1 [.slice p n c] ∧ Owns w' w.heap.size ty_int 1 (some ⟨q1, 0, none⟩) 1 1 [.int .i64 52]) := by
  apply slices_Chunk_byte_byte.ok
  unfold slices_Chunk_byte_byte.main
  rintro b1 w1 rfl rfl b2 w2 rfl rfl
  have o1 := Owns.new (w := w) [.slice p n c] ty_sl_uint8
  have x1 := Ex.alloc w (.cells [Value.slice p n c].toArray ty_sl_uint8)
  generalize w.alloc (.cells #[.slice p n c] ty_sl_uint8) = w1 at o1 x1 ⊢
  have o2 := Owns.new (w := w1) [.int .i64 52] ty_int
  have x2 := Ex.alloc w1 (.cells [Value.int .i64 52].toArray ty_int)
  generalize w1.alloc (.cells #[.int .i64 52] ty_int) = w2 at o2 x2 ⊢
  refine ⟨52, o2.at (by rfl), ?_⟩
  rw [condd_neg (by omega)]
  exact Ret.mk ⟨_, _, rfl, x1.trans x2, o1.ex x2, o2.lower x1.size⟩
theorem min2_52 {n : Int} (h : n ≤ 52) : min2 52 n = n := by unfold min2; split <;> omega
theorem Chunk_seq {w : World} {B1 B2 q0 q1 : Nat} {p : Option Addr} {n c : Nat} (o0 : Owns w B1 ty_sl_uint8 1 (some ⟨q0, 0, none⟩) 1 1 [.slice p n c]) (o1 : Owns w B2 ty_int 1 (some ⟨q1, 0, none⟩) 1 1 [.int .i64 52]) (hn : 1 ≤ n ∧ n ≤ 52) (hcap : n ≤ c) :
    SeqStopsK Fence.wide 0 Try.prog 51 #[.pointer (some ⟨q0, 0, none⟩), .pointer (some ⟨q1, 0, none⟩)] (fun (_ : Unit) => #[.slice p n n]) (Keep2 q0 q1) (fun xs => xs = [()]) (fun xs => xs = [()]) 1 w := by
  intro l J Jx W hb hJ hJx hy h0
  have x := Kp.of_below hb
  have p0 := o0.kp x (fun a ha => by cases ha; have := (o0.ge rfl).2; dsimp only at this ⊢; omega)
  have p1 := o1.kp x (fun a ha => by cases ha; have := (o1.ge rfl).2; dsimp only at this ⊢; omega)
  show slices_Chunk_byte_byte_1_y.C l q0 q1 W _
  apply slices_Chunk_byte_byte_1_y.ok
  unfold slices_Chunk_byte_byte_1_y.main slices_Chunk_byte_byte_1_y.l1
  refine ⟨fun t0 t1 t2 t4 w' => l = t0 ∧ q0 = t1 ∧ q1 = t2 ∧ Cells2 q0 q1 (.slice p n c) (.int .i64 52) w' ∧ (t4 = 0 ∧ J [] w' ∨ t4 = 52 ∧ J [()] w'), fun t0 t1 t2 t4 w' => (52 - t4).toNat, ⟨rfl, rfl, rfl, ⟨p0.at (by rfl), p1.at (by rfl)⟩, .inl ⟨rfl, h0⟩⟩, ?_⟩
  rintro _ _ _ t4 w' ⟨rfl, rfl, rfl, ⟨c0, c1⟩, ht⟩
  unfold slices_Chunk_byte_byte_1_y.b1
  refine ⟨p, n, c, c0, ?_⟩
  rcases ht with ⟨rfl, hj⟩ | ⟨rfl, hj⟩
  · rw [condd_pos (by omega)]
    refine ⟨52, c1, p, n, c, c0, chk_of (by decide) (chk_of (decide_eq_true (by omega)) ⟨p, n, c, c0, ?_⟩)⟩
    have e1 : (((n - (0 : Int).toNat) : Nat) : Int) = (n : Int) := rfl
    rw [e1, min2_52 (by omega), Int.zero_add, w64 (by omega) (by omega), Int.toNat_natCast]
    refine chk_of (decide_eq_true (by omega)) (chk_of (decide_eq_true (by omega)) (chk_of (decide_eq_true (by omega)) (chk_of (decide_eq_true (by omega)) (chk_of (by decide) (chk_of (decide_eq_true (by omega)) ?_)))))
    have e2 : (Value.slice (slA p n (0 : Int).toNat 1) (n - (0 : Int).toNat) (n - (0 : Int).toNat)) = Value.slice p n n := by
      show Value.slice (slA p n 0 1) (n - 0) (n - 0) = _
      rw [slA_zero, Nat.sub_zero]
    rw [e2]
    have hj' : J [] w'.drew := hJ _ _ _ none hj (grown_drew w') (fun r e => by cases e)
    obtain ⟨fn, tmps, assign, body, hrun, hround⟩ := hy [] () w'.drew hj' (by decide)
    refine ⟨fn, tmps, assign, body, hrun, hround.mono fun e w1 he => ?_⟩
    rcases he with ⟨rfl, hj1, hk⟩ | ⟨rfl, hj1⟩
    · refine ⟨_, rfl, ?_⟩
      try dsimp only [dI_i64, dI_u8, dI_u16, dI_u32, dB_bool, dS_slice, dP_ptr, dT_tup, dA_agg, dStr_str, dF_f, dC_c, dM_m, optP_some, ga0, ga1, ga2, ga3, ga4, cond_true, cond_false, chk_true, Bool.not_true, Bool.not_false, Option.isNone_none, Option.isNone_some, List.toList_toArray]
      have hk' := hk _ _ ⟨c0, c1⟩
      refine ⟨52, hk'.2, ?_⟩
      rw [Int.zero_add, w64 (by omega) (by omega)]
      exact ⟨⟨rfl, rfl, rfl, hk', .inr ⟨rfl, hj1⟩⟩, by ((try dsimp only); omega)⟩
    · refine ⟨_, rfl, ?_⟩
      try dsimp only [dI_i64, dI_u8, dI_u16, dI_u32, dB_bool, dS_slice, dP_ptr, dT_tup, dA_agg, dStr_str, dF_f, dC_c, dM_m, optP_some, ga0, ga1, ga2, ga3, ga4, cond_true, cond_false, chk_true, Bool.not_true, Bool.not_false, Option.isNone_none, Option.isNone_some, List.toList_toArray]
      exact ⟨⟨_, rfl⟩, .inr ⟨_, rfl, hj1⟩⟩
  · rw [condd_neg (by omega)]
    exact ⟨⟨_, rfl⟩, .inl ⟨_, rfl, hj⟩⟩

/-! ### The round -/
structure CtxB (W : World) (b3 b4 : Nat) (p2 : Option Addr) : Prop where
  k3 : Owns W 0 ty_int 1 (some ⟨b3, 0, none⟩) 1 1 [.int .i64 5]
  k4 : Owns W 0 ty_sl_sl_uint8 1 (some ⟨b4, 0, none⟩) 1 1 [.slice none 0 0]
  part : CellsO W p2 (v8 zeros)
section
variable {α : Type} {Kq : World → World → Prop} {I : List α → World → Prop} {pre : List α} {x : α} {W : World} {b3 b4 : Nat} {p2 : Option Addr}
def EndB (Kq : World → World → Prop) (I : List α → World → Prop) (pre : List α) (x : α) (W : World) (b4 : Nat) : Prop :=
  ∀ (p8 : Option Addr) (c8 : Nat) (p9 : Option Addr) (c9 : Nat) (w24 : World), Ex W w24 → Owns w24 W.heap.size ty_uint8 1 p8 64 c8 (v8 page1) → Owns w24 W.heap.size ty_sl_uint8 1 p9 1 c9 [.slice p8 64 c8] → leaf_Encode.o1 α Kq I pre x w24 b4 p9 0 c9 W
theorem slice_one {p : Option Addr} {n c : Nat} : ∀ y ∈ [Value.slice p n c], y.oneCell' = true := by
  intro y hy
  simp only [List.mem_singleton] at hy
  rw [hy]; rfl
theorem U3 (c : CtxB W b3 b4 p2) (en : EndB Kq I pre x W b4) {w : World} (hx : Ex W w) {p8 : Option Addr} {c8 : Nat} (o : Owns w W.heap.size ty_uint8 1 p8 64 c8 (v8 page1)) : leaf_Encode.o3 α Kq I pre x w p8 64 c8 b4 none 0 0 W := by
  unfold leaf_Encode.o3
  rintro b7 w23 rfl rfl
  have o7 := Owns.new (w := w) [.slice p8 64 c8] ty_sl_uint8
  have x7 := Ex.alloc w (.cells [Value.slice p8 64 c8].toArray ty_sl_uint8)
  generalize w.alloc (.cells #[.slice p8 64 c8] ty_sl_uint8) = w23 at o7 x7 ⊢
  refine ⟨(c.k4.ex (hx.trans x7)).at (by rfl), ?_⟩
  unfold leaf_Encode.o2
  refine appP_own (B := W.heap.size) (Owns.nil w23 W.heap.size ty_sl_uint8 1) (hx.trans x7).size [.slice p8 64 c8] o7.cells rfl slice_one rfl (by omega) (by omega) ?_
  intro p9 c9 w24 o9 k9
  have x9 : Ex w23 w24 := k9.mono fun i _ ⟨y, e, _⟩ => by cases e
  exact en p8 c8 p9 c9 w24 ((hx.trans x7).trans x9) ((o.ex x7).ex x9) o9
theorem U5 (c : CtxB W b3 b4 p2) (en : EndB Kq I pre x W b4) {w : World} (hx : Ex W w) {p6 : Option Addr} {c6 : Nat} (s : Sl W w p6 6 c6 [0, 0, 0, 5, 0, 16]) : leaf_Encode.o5 α Kq I pre x w p6 6 c6 16 p2 b4 none 0 0 W := by
  unfold leaf_Encode.o5
  refine appP_own (B := W.heap.size) s hx.size (v8 zeros) (CellsO.ex hx c.part) rfl (v8_one _) rfl (by omega) (by omega) ?_
  intro p7 c7 w20 o7 k7
  have x7 : Ex W w20 := hx.then k7 fun i ⟨y, e, hi⟩ => by have := (Owns.ge s e).1; omega
  refine ⟨(c.k4.ex x7).at (by rfl), ?_⟩
  unfold leaf_Encode.o4
  have o7 : Owns w20 W.heap.size ty_uint8 1 p7 (6 + 16) c7 (v8 text1) := by unfold text1; rw [← v8_app]; exact o7
  refine callP.use (sealed_spec p7 (6 + 16) c7 text1 w20 o7.cells (by decide) text1_bytes (by omega)) ?_
  rintro _ w21 ⟨p8, c8, rfl, o8, x8⟩
  try dsimp only [dI_i64, dI_u8, dI_u16, dI_u32, dB_bool, dS_slice, dP_ptr, dT_tup, dA_agg, dStr_str, dF_f, dC_c, dM_m, optP_some, ga0, ga1, ga2, ga3, ga4, cond_true, cond_false, chk_true, Bool.not_true, Bool.not_false, Option.isNone_none, Option.isNone_some, List.toList_toArray]
  refine ⟨(c.k4.ex (x7.trans x8)).at (by rfl), ?_⟩
  exact U3 c en (x7.trans x8) (o8.lower x7.size)
theorem U6 (c : CtxB W b3 b4 p2) (en : EndB Kq I pre x W b4) {w : World} (hx : Ex W w) {p5 : Option Addr} {c5 b6 : Nat} (s : Sl W w p5 4 c5 [0, 0, 0, 5]) (h6 : Bx w b6 [0, 16]) : leaf_Encode.o6 α Kq I pre x p5 4 c5 b6 w b4 none 0 0 16 p2 W := by
  unfold leaf_Encode.o6
  refine putX hx s h6 row016 (by omega) (by decide) fun p c' w' x g h => ?_
  dsimp only [dS_slice]
  exact ⟨(c.k4.ex x).at (by rfl), U5 c en x h⟩
theorem put0 {w : World} {N : Value → World → Prop} {X : List PanicEntry → World → Prop} (hx : Ex W w) {b5 : Nat} (h5 : Bx w b5 [5])
    (K : ∀ p c w', Ex W w' → (∀ b l, Bx w b l → Bx w' b l) → Sl W w' p 4 c [0, 0, 0, 5] → N (.slice p 4 c) w') : callP Try.prog 34 #[.slice none 0 0, .int .i64 4, .slice (some ⟨b5, 0, none⟩) 1 1] w N X :=
  putX hx (p := none) (n := 0) (c := 0) (xs := []) (Owns.nil _ _ _ _) h5 row5 (by omega) (by decide) K
theorem U7 (c : CtxB W b3 b4 p2) (en : EndB Kq I pre x W b4) {w : World} (hx : Ex W w) {p5 : Option Addr} {c5 : Nat} (s : Sl W w p5 4 c5 [0, 0, 0, 5]) : leaf_Encode.o7 α Kq I pre x w 0 16 b4 none 0 0 p5 4 c5 p2 W := by
  unfold leaf_Encode.o7
  refine newBx hx [0, 16] fun b6 w17 x h => ?_
  exact ⟨(c.k4.ex (hx.trans x)).at (by rfl), U6 c en (hx.trans x) (s.ex x) h⟩
theorem U8 (c : CtxB W b3 b4 p2) (en : EndB Kq I pre x W b4) {w : World} (hx : Ex W w) {b5 b8 : Nat} (h5 : Bx w b5 [5]) (h8 : Bx w b8 [0, 16]) : leaf_Encode.o8 α Kq I pre x b5 w b4 none 0 0 b8 16 p2 W := by
  unfold leaf_Encode.o8
  refine put0 hx h5 fun p c' w' x g h => ?_
  dsimp only [dS_slice]
  exact ⟨(c.k4.ex x).at (by rfl), U6 c en x h (g _ _ h8)⟩
theorem U9 (c : CtxB W b3 b4 p2) (en : EndB Kq I pre x W b4) {w : World} (hx : Ex W w) {b5 : Nat} (h5 : Bx w b5 [5]) : leaf_Encode.o9 α Kq I pre x b5 w b4 none 0 0 none 0 0 16 p2 W := by
  unfold leaf_Encode.o9
  refine ⟨?_, ?_⟩
  · refine put0 hx h5 fun p c' w' x g h => ?_
    dsimp only [dS_slice]
    exact ⟨(c.k4.ex x).at (by rfl), (c.k4.ex x).at (by rfl), U7 c en x h⟩
  · refine newBx hx [0, 16] fun b8 w26 x h => ?_
    exact ⟨(c.k4.ex (hx.trans x)).at (by rfl), U8 c en (hx.trans x) (h5.ex x) h⟩
theorem U10 (c : CtxB W b3 b4 p2) (en : EndB Kq I pre x W b4) {w : World} (hx : Ex W w) {b10 : Nat} (h10 : Bx w b10 [0, 16]) : leaf_Encode.o10 α Kq I pre x w 5 b4 none 0 0 b10 16 p2 W := by
  unfold leaf_Encode.o10
  refine newBx hx [5] fun b11 w38 x h => ?_
  exact ⟨(c.k4.ex (hx.trans x)).at (by rfl), U8 c en (hx.trans x) h (h10.ex x)⟩
theorem U11 (c : CtxB W b3 b4 p2) (en : EndB Kq I pre x W b4) : leaf_Encode.o11 α Kq I pre x W 5 b4 none 0 0 none 0 0 16 p2 b3 := by
  unfold leaf_Encode.o11
  have hx := Ex.drew W
  refine ⟨?_, ?_⟩
  · refine newBx hx [5] fun b5 w14 x h => ?_
    exact ⟨(c.k4.ex (hx.trans x)).at (by rfl), (c.k4.ex (hx.trans x)).at (by rfl), U9 c en (hx.trans x) h⟩
  · refine newBx hx [0, 16] fun b10 w37 x h => ?_
    exact ⟨(c.k3.ex (hx.trans x)).at (by rfl), (c.k4.ex (hx.trans x)).at (by rfl), U10 c en (hx.trans x) h⟩
end
end Go.Proofs.Ytokepljpieboiaa.G
namespace Go.Proofs.Ytokepljpieboiaa.G
open Go.Dec Go.RowKit
set_option linter.unusedVariables false
set_option linter.unusedSimpArgs false

def crc : Int := u (more 0#32 zeros)
def text0 : List Int := hdr3 ++ Cel.be 4 crc
def page0 : List Int := sealed text0
theorem text0_bytes : Bytes text0 := Bytes.append (fun x hx => by
  simp only [hdr3, hdr2, hdr1, slat, List.cons_append, List.nil_append, List.mem_cons, List.not_mem_nil, or_false] at hx
  omega) (Cel.be_byte _ _)
theorem text0_len : text0.length = 17 := by unfold text0; rw [List.length_append, Cel.be_length]; rfl
theorem crc_row : Cel.rowB 4 [crc] = Cel.be 4 crc := by
  have hb := u_lt (more 0#32 zeros)
  have := (Cel.row_in (k := 4) (by omega) (by omega) [crc]).2
  have e : ((4 : Nat) : Int) = 4 := rfl
  rw [e] at this
  rw [this, if_pos]
  · simp
  · simp only [List.all_cons, List.all_nil, Bool.and_true, Cel.okNum, Bool.and_eq_true, decide_eq_true_eq]
    exact ⟨hb.1, hb.2⟩
structure Laid (w : World) (b2 b3 b4 : Nat) (p1 : Option Addr) (c1 : Nat) (W : World) : Prop where
  ex : Ex w W
  k2 : Owns W 0 ty_api_Plat 2 (some ⟨b2, 0, none⟩) 1 1 [.int .i64 6, .int .i64 2]
  k3 : Owns W 0 ty_int 1 (some ⟨b3, 0, none⟩) 1 1 [.int .i64 5]
  text : Owns W 0 ty_uint8 1 p1 16 c1 (v8 zeros)
  out : ∃ p9 c9 p8 c8, Owns W 0 ty_sl_sl_uint8 1 (some ⟨b4, 0, none⟩) 1 1 [.slice p9 1 c9] ∧ Owns W w.heap.size ty_sl_uint8 1 p9 1 c9 [.slice p8 64 c8] ∧ Owns W w.heap.size ty_uint8 1 p8 64 c8 (v8 page1)
theorem Laid.grown {w W W' : World} {b2 b3 b4 C : Nat} {p1 : Option Addr} {c1 : Nat} (h : Laid w b2 b3 b4 p1 c1 W) (k : Kp W W' (NoC W C)) (hC : w.heap.size ≤ C) : Laid w b2 b3 b4 p1 c1 W' := by
  obtain ⟨h1, h2, h3, h4, p9, c9, p8, c8, h5, h6, h7⟩ := h
  exact ⟨h1.later k hC, h2.grown k, h3.grown k, h4.grown k, p9, c9, p8, c8, h5.grown k, h6.grown k, h7.grown k⟩
/-- what a state without volumes is laid as -/
structure Pages (w : World) (B : Nat) (p : Option Addr) (c : Nat) (p0 : Option Addr) (c0 : Nat) (p1 : Option Addr) (c1 : Nat) : Prop where
  list : Owns w B ty_sl_uint8 1 p 2 c [.slice p0 64 c0, .slice p1 64 c1]
  first : Owns w B ty_uint8 1 p0 64 c0 (v8 page0)
  second : Owns w B ty_uint8 1 p1 64 c1 (v8 page1)
theorem Pages.ex {w w' : World} {B : Nat} {p : Option Addr} {c : Nat} {p0 : Option Addr} {c0 : Nat} {p1 : Option Addr} {c1 : Nat} (h : Pages w B p c p0 c0 p1 c1) (x : Ex w w') : Pages w' B p c p0 c0 p1 c1 := ⟨h.list.ex x, h.first.ex x, h.second.ex x⟩
theorem Encode_zero (w : World) : leaf_Encode.C zst.toArray 6 2 5 w (Ret fun v w' => ∃ p c p0 c0 p1 c1, v = .tuple #[.slice p 2 c, .int .i64 0] ∧ Ex w w' ∧ Pages w' w.heap.size p c p0 c0 p1 c1) := by
  apply leaf_Encode.ok
  unfold leaf_Encode.main
  rintro b1 w1 rfl rfl b2 w2 rfl rfl b3 w3 rfl rfl
  have o1 := Owns.new (w := w) zst ty_api_State
  have x1 := Ex.alloc w (.cells zst.toArray ty_api_State)
  generalize w.alloc (.cells zst.toArray ty_api_State) = w1 at o1 x1 ⊢
  have o2 := (Owns.new (w := w1) [.int .i64 6, .int .i64 2] ty_api_Plat).lower (Nat.zero_le _)
  have x2 := Ex.alloc w1 (.cells [Value.int .i64 6, .int .i64 2].toArray ty_api_Plat)
  generalize w1.heap.size = b2 at o2 ⊢
  generalize w1.alloc (.cells #[.int .i64 6, .int .i64 2] ty_api_Plat) = w2 at o2 x2 ⊢
  have o3 := (Owns.new (w := w2) [.int .i64 5] ty_int).lower (Nat.zero_le _)
  have x3 := Ex.alloc w2 (.cells [Value.int .i64 5].toArray ty_int)
  generalize w2.heap.size = b3 at o3 ⊢
  generalize w2.alloc (.cells #[.int .i64 5] ty_int) = w3 at o3 x3 ⊢
  have o1 := o1.ex (x2.trans x3)
  have o2 := o2.ex x3
  have hx := x1.trans (x2.trans x3)
  clear x1 x2 x3
  refine ⟨5, o3.at (by rfl), ?_⟩
  rw [condd_neg (by omega)]
  refine ⟨5, o3.at (by rfl), ?_⟩
  rw [condd_neg (by omega)]
  refine ⟨zst.toArray, rfl, o1.cells, #[.int .i64 6, .int .i64 2], rfl, o2.cells, ?_⟩
  refine callP.use (Fit_zero _) ?_
  rintro _ w4 ⟨rfl, x4⟩
  try dsimp only [dI_i64, dI_u8, dI_u16, dI_u32, dB_bool, dS_slice, dP_ptr, dT_tup, dA_agg, dStr_str, dF_f, dC_c, dM_m, optP_some, ga0, ga1, ga2, ga3, ga4, cond_true, cond_false, chk_true, Bool.not_true, Bool.not_false, Option.isNone_none, Option.isNone_some, List.toList_toArray]
  rw [cond_neg (by rfl)]
  refine ⟨zst.toArray, rfl, (o1.ex x4).cells, #[.int .i64 6, .int .i64 2], rfl, (o2.ex x4).cells, ?_⟩
  refine callP.use (payload_zero _) ?_
  rintro _ w6 ⟨p1, c1, rfl, o6, x6⟩
  try dsimp only [dI_i64, dI_u8, dI_u16, dI_u32, dB_bool, dS_slice, dP_ptr, dT_tup, dA_agg, dStr_str, dF_f, dC_c, dM_m, optP_some, ga0, ga1, ga2, ga3, ga4, cond_true, cond_false, chk_true, Bool.not_true, Bool.not_false, Option.isNone_none, Option.isNone_some, List.toList_toArray]
  have o6 : Owns w6 0 ty_uint8 1 p1 16 c1 (v8 zeros) := o6.lower (Nat.zero_le _)
  have x46 := x4.trans x6
  have o2 := o2.ex x46
  have o3 := o3.ex x46
  have hx := hx.trans x46
  clear x4 x6 x46 o1
  rintro b4 w8 rfl rfl
  have hb4 : w.heap.size ≤ w6.heap.size := hx.size
  have o4 := (Owns.new (w := w6) [.slice none 0 0] ty_sl_sl_uint8).lower (Nat.zero_le _)
  have x8 := Ex.alloc w6 (.cells [Value.slice none 0 0].toArray ty_sl_sl_uint8)
  generalize w6.heap.size = b4 at o4 hb4 ⊢
  generalize w6.alloc (.cells #[.slice none 0 0] ty_sl_sl_uint8) = w8 at o4 x8 ⊢
  have o2 := o2.ex x8
  have o3 := o3.ex x8
  have o6 := o6.ex x8
  have hx := hx.trans x8
  clear x8
  refine callP.use (Chunk_spec p1 16 c1 w8) ?_
  rintro _ w9 ⟨q0, q1, rfl, x9, r0, r1⟩
  refine chk_of (by rfl) ?_
  have o2 := o2.ex x9
  have o3 := o3.ex x9
  have o6 := o6.ex x9
  have h4lt : b4 < w8.heap.size := (o4.ge rfl).2
  have o4 := o4.ex x9
  have hq0 : w8.heap.size ≤ q0 := (r0.ge rfl).1
  have hq1 : w8.heap.size ≤ q1 := (r1.ge rfl).1
  have hx := hx.trans x9
  clear x9
  refine ⟨Unit, fun _ => .slice p1 16 16, Keep2 q0 q1, fun xs => xs = [()], fun xs => xs = [()], 1, fun xs W => (xs = [] ∧ Ex w9 W) ∨ (xs = [()] ∧ Laid w b2 b3 b4 p1 c1 W), fun _ _ => False, ?_, ?_, ?_, ?_⟩
  · refine ⟨Chunk_seq r0 r1 (by omega) o6.2.1, fun h k => h.trans k, fun W l o o' _ ho hc _ => Keep2.book W l o o' ho hc, ?_, fun _ _ _ _ h => h.elim, .inl ⟨rfl, Ex.refl _⟩⟩
    intro xs W W' row hI hgr hr
    have k := Kp.grown hgr hr
    rcases hI with ⟨rfl, hI⟩ | ⟨rfl, hI⟩
    · exact .inl ⟨rfl, hI.later k (Nat.le_refl _)⟩
    · exact .inr ⟨rfl, hI.grown k hx.size⟩
  · intro pre x w11 hI hpre
    rcases hI with ⟨rfl, hI⟩ | ⟨rfl, hI⟩
    · try dsimp only [dI_i64, dI_u8, dI_u16, dI_u32, dB_bool, dS_slice, dP_ptr, dT_tup, dA_agg, dStr_str, dF_f, dC_c, dM_m, optP_some, ga0, ga1, ga2, ga3, ga4, cond_true, cond_false, chk_true, Bool.not_true, Bool.not_false, Option.isNone_none, Option.isNone_some, List.toList_toArray]
      have k3 := o3.ex hI
      have k4 := o4.ex hI
      have k2 := o2.ex hI
      have kt := o6.ex hI
      have s0 := r0.ex hI
      have s1 := r1.ex hI
      have hx11 := hx.trans hI
      refine ⟨none, 0, 0, k4.at (by rfl), 5, k3.at (by rfl), none, 0, 0, k4.at (by rfl), ?_⟩
      refine U11 ⟨k3, k4, kt.cells⟩ ?_
      intro p8 c8 p9 c9 w24 x24 t8 t9
      unfold leaf_Encode.o1
      refine (k4.ex x24).put1 (Nat.lt_succ_self 0) (by rfl) fun w25 k25 o25 => ?_
      have kD : Kp w11 w25 fun i => i = b4 := Kp.trans (x24.kp _) k25 (fun i _ h => h) (fun i _ h => h)
      have hb0 : q0 ≠ b4 := by omega
      have hb1 : q1 ≠ b4 := by omega
      have b4t := ((k4.ex x24).typed rfl).1
      refine ⟨KeepsOthers.of_kp kD ?_, ?_, .inr ⟨rfl, ?_⟩⟩
      · rintro i _ rfl
        exact ⟨_, (k4.typed rfl).1⟩
      · intro v0 v1 hc
        have a0 := s0.at (j := 0) (by rfl)
        have a1 := s1.at (j := 0) (by rfl)
        have e0 := hc.1.symm.trans a0
        have e1 := hc.2.symm.trans a1
        cases e0
        cases e1
        exact ⟨(s0.kp kD fun y hy => by cases hy; exact hb0).at (by rfl), (s1.kp kD fun y hy => by cases hy; exact hb1).at (by rfl)⟩
      · have tt : ∀ i, i = b4 → Typed w24 ty_sl_sl_uint8 i := fun i hi => by rw [hi]; exact b4t
        exact ⟨(hx11.trans x24).then k25 fun i hi => by omega, (k2.ex x24).away k25 ty_sl_sl_uint8 tt (by decide), (k3.ex x24).away k25 ty_sl_sl_uint8 tt (by decide), (kt.ex x24).away k25 ty_sl_sl_uint8 tt (by decide), p9, c9, p8, c8, o25,
          (t9.lower hx11.size).away k25 ty_sl_sl_uint8 tt (by decide), (t8.lower hx11.size).away k25 ty_sl_sl_uint8 tt (by decide)⟩
    · simp at hpre
  · intro D xs w12 hD hxs hI hdef
    subst hxs
    rcases hI with ⟨hI, _⟩ | ⟨_, hI⟩
    · cases hI
    obtain ⟨g1, g2, g3, g4, p9, c9, p8, c8, g5, g6, g7⟩ := hI
    refine ⟨5, g3.at (by rfl), 6, g2.at (by rfl), 2, g2.at (by rfl), p9, 1, c9, g5.at (by rfl), ?_⟩
    refine T47 ⟨g2, g3, g5⟩ ?_ (Ex.refl w12)
    intro p23 c23 w58 x58 s3
    have d58 := x58.trans (Ex.drew w58)
    refine ⟨p9, 1, c9, (g5.ex d58).at (by rfl), ?_⟩
    unfold leaf_Encode.o17
    refine callP.use (Sum_spec p1 16 c1 zeros _ (g4.ex d58).cells (by decide) (by omega) zeros_bytes) ?_
    rintro _ w60 ⟨rfl, x60⟩
    try dsimp only [dI_i64, dI_u8, dI_u16, dI_u32, dB_bool, dS_slice, dP_ptr, dT_tup, dA_agg, dStr_str, dF_f, dC_c, dM_m, optP_some, ga0, ga1, ga2, ga3, ga4, cond_true, cond_false, chk_true, Bool.not_true, Bool.not_false, Option.isNone_none, Option.isNone_some, List.toList_toArray]
    have h60 := d58.trans x60
    have s3 := (s3.ex (Ex.drew w58)).ex x60
    refine ⟨(g5.ex h60).at (by rfl), ?_⟩
    unfold leaf_Encode.o16
    have hcr := u_lt (more 0#32 zeros)
    rw [w64 (x := u (more 0#32 zeros)) (by omega) (by omega)]
    refine newBx h60 [crc] fun b17 w62 x62 hb17 => ?_
    have h62 := h60.trans x62
    have s3 := s3.ex x62
    refine ⟨(g5.ex h62).at (by rfl), ?_⟩
    unfold leaf_Encode.o15
    refine putX h62 s3 hb17 crc_row (by omega) (by decide) fun p25 c25 w63 x63 _ s4 => ?_
    dsimp only [dS_slice]
    have e17 : 13 + (Cel.be 4 crc).length = 17 := by rw [Cel.be_length]
    rw [e17] at s4 ⊢
    refine ⟨(g5.ex x63).at (by rfl), ?_⟩
    unfold leaf_Encode.o14
    refine callP.use (sealed_spec p25 17 c25 text0 w63 (Owns.cells s4) text0_len text0_bytes (by omega)) ?_
    rintro _ w65 ⟨p26, c26, rfl, o26, x65⟩
    try dsimp only [dI_i64, dI_u8, dI_u16, dI_u32, dB_bool, dS_slice, dP_ptr, dT_tup, dA_agg, dStr_str, dF_f, dC_c, dM_m, optP_some, ga0, ga1, ga2, ga3, ga4, cond_true, cond_false, chk_true, Bool.not_true, Bool.not_false, Option.isNone_none, Option.isNone_some, List.toList_toArray]
    have h65 := x63.trans x65
    refine ⟨(g5.ex h65).at (by rfl), ?_⟩
    unfold leaf_Encode.o13
    rintro b18 w67 rfl rfl
    have o18 := Owns.new (w := w65) [.slice p26 64 c26] ty_sl_uint8
    have x67 := Ex.alloc w65 (.cells [Value.slice p26 64 c26].toArray ty_sl_uint8)
    have hb18 : w12.heap.size ≤ w65.heap.size := h65.size
    generalize w65.heap.size = b18 at o18 hb18 ⊢
    generalize w65.alloc (.cells #[.slice p26 64 c26] ty_sl_uint8) = w67 at o18 x67 ⊢
    have h67 := h65.trans x67
    refine ⟨(g5.ex h67).at (by rfl), ?_⟩
    unfold leaf_Encode.o12
    have hB : w.heap.size ≤ b18 := Nat.le_trans g1.size hb18
    refine appP_own (B := w.heap.size) (o18.lower hB) (g1.trans h67).size [.slice p8 64 c8] (g6.ex h67).cells rfl slice_one rfl (by omega) (by omega) ?_
    intro p27 c27 w68 o27 k68
    have k68' : Kp w67 w68 fun i => i = b18 := k68.mono fun i _ ⟨y, e, hi⟩ => by cases e; exact hi.symm
    have h68 : Ex w12 w68 := h67.then k68' fun i hi => by omega
    have hdlt : D < w12.heap.size := (Array.getElem?_eq_some_iff.1 hdef).1
    have hd68 : w68.heap[D]? = some (.deferred (some [])) := by rw [h68.block D hdlt id]; exact hdef
    refine ⟨hd68, ?_⟩
    have kf := Kp.putObj w68 D (.deferred none)
    have hnc : ∀ i, i = D → NoC w68 0 i := fun i hi => ⟨Nat.zero_le _, .deferred (some []), by rw [hi]; exact hd68, rfl⟩
    have keep : ∀ {B e sz n c : Nat} {p : Option Addr} {xs : List Value}, Owns w68 B e sz p n c xs → Owns (w68.putObj D (.deferred none)) B e sz p n c xs := fun o => o.kp kf fun y hy hi => (hnc _ hi).typed (o.typed hy).1
    have t18 : ∀ i, i = b18 → Typed w67 ty_sl_uint8 i := fun i hi => by rw [hi]; exact (o18.typed rfl).1
    have f26 : Owns w68 w.heap.size ty_uint8 1 p26 64 c26 (v8 page0) := ((o26.lower (g1.trans x63).size).ex x67).away k68' ty_sl_uint8 t18 (by decide)
    have f8 : Owns w68 w.heap.size ty_uint8 1 p8 64 c8 (v8 page1) := (g7.ex h67).away k68' ty_sl_uint8 t18 (by decide)
    refine Ret.mk ⟨p27, c27, p26, c26, p8, c8, rfl, ?_, keep o27, keep f26, keep f8⟩
    exact (g1.trans h68).then kf fun i hi => by rw [hi]; exact Nat.le_trans hx.size hD
  · intro D pre w13 _ _ hI _
    exact hI.elim
end Go.Proofs.Ytokepljpieboiaa.G

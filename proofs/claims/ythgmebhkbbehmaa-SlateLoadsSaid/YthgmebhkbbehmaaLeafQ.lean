/-
  leaf.Encode of any state: chunks, the round of one page.
-/
import Derived.Test.YthgmebhkbbehmaaLeafP
namespace Go.Proofs.Ythgmebhkbbehmaa.G.En
open Go.Dec Go.RowKit
set_option linter.unusedVariables false
set_option linter.unusedSimpArgs false

/-! ### Chunks and pages -/
def cnt (n : Nat) : Nat := (n + 51) / 52
def clen (n j : Nat) : Nat := min 52 (n - 52 * j)
def chunk (t : List Int) (j : Nat) : List Int := (t.drop (52 * j)).take (clen t.length j)
theorem chunk_len (t : List Int) (j : Nat) : (chunk t j).length = clen t.length j := by
  unfold chunk clen
  rw [List.length_take, List.length_drop]
  omega
theorem clen_pos {n j : Nat} (h : j < cnt n) : 0 < clen n j ∧ 52 * j + clen n j ≤ n ∧ clen n j ≤ 52 := by
  unfold cnt at h
  unfold clen
  omega
def lfT (q : Int) (i : Nat) (part : List Int) : List Int := Cel.be 4 q ++ [(i : Int), (part.length : Int)] ++ part
def lfP (q : Int) (i : Nat) (part : List Int) : List Int := sealed (lfT q i part)
def lv (q : Int) (t : List Int) (xs : List Nat) : List (List Int) := xs.mapIdx fun i x => lfP q i (chunk t x)
theorem lv_snoc (q : Int) (t : List Int) (xs : List Nat) (x : Nat) : lv q t (xs ++ [x]) = lv q t xs ++ [lfP q xs.length (chunk t x)] := by
  unfold lv
  rw [List.mapIdx_concat]
theorem lv_len (q : Int) (t : List Int) (xs : List Nat) : (lv q t xs).length = xs.length := by unfold lv; rw [List.length_mapIdx]
def hdT (H : Hd) (t : List Int) : List Int := hd3 H ++ Cel.be 4 (u (more 0#32 t))
def hdP (H : Hd) (t : List Int) : List Int := sealed (hdT H t)
def hdOf (s k q : Int) (t : List Int) : Hd := ⟨q, s, k, cnt t.length, t.length⟩
/-- what a text is laid as -/
def laidAs (s k q : Int) (t : List Int) : List (List Int) := hdP (hdOf s k q t) t :: lv q t (List.range (cnt t.length))
theorem hdT_len (H : Hd) (t : List Int) : (hdT H t).length = 17 := by
  unfold hdT hd3 hd2 hd1
  simp only [List.length_append, Cel.be_length]
  rfl
theorem lfT_len (q : Int) (i : Nat) (part : List Int) : (lfT q i part).length = 6 + part.length := by
  unfold lfT
  simp only [List.length_append, Cel.be_length]
  rfl

/-! ### Rows of pages -/
structure PgAt (w : World) (B : Nat) (ps : List Value) (pgs : List (List Int)) : Prop where
  len : ps.length = pgs.length
  row : ∀ (i : Nat) (pg : List Int), pgs[i]? = some pg → ∃ (p : Option Addr) (c : Nat), ps[i]? = some (.slice p 64 c) ∧ Owns w B ty_uint8 1 p 64 c (v8 pg)
theorem PgAt.nil (w : World) (B : Nat) : PgAt w B [] [] := ⟨rfl, fun i pg h => by simp at h⟩
theorem PgAt.ex {w w' : World} {B : Nat} {ps : List Value} {pgs : List (List Int)} (h : PgAt w B ps pgs) (x : Ex w w') : PgAt w' B ps pgs :=
  ⟨h.len, fun i pg hp => by obtain ⟨p, c, h1, h2⟩ := h.row i pg hp; exact ⟨p, c, h1, h2.ex x⟩⟩
theorem PgAt.away {w w' : World} {B : Nat} {ps : List Value} {pgs : List (List Int)} (h : PgAt w B ps pgs) {S : Nat → Prop} (k : Kp w w' S) (f : TypeId) (hs : ∀ i, S i → Typed w f i) (hne : ty_uint8 ≠ f) : PgAt w' B ps pgs :=
  ⟨h.len, fun i pg hp => by obtain ⟨p, c, h1, h2⟩ := h.row i pg hp; exact ⟨p, c, h1, h2.away k f hs hne⟩⟩
theorem PgAt.grown {W W' : World} {B C : Nat} {ps : List Value} {pgs : List (List Int)} (h : PgAt W B ps pgs) (k : Kp W W' (NoC W C)) : PgAt W' B ps pgs :=
  ⟨h.len, fun i pg hp => by obtain ⟨p, c, h1, h2⟩ := h.row i pg hp; exact ⟨p, c, h1, h2.grown k⟩⟩
theorem PgAt.keep {w w' : World} {B : Nat} {ps : List Value} {pgs : List (List Int)} (h : PgAt w B ps pgs) (k : ∀ {p : Option Addr} {c : Nat} {pg : List Int}, Owns w B ty_uint8 1 p 64 c (v8 pg) → Owns w' B ty_uint8 1 p 64 c (v8 pg)) : PgAt w' B ps pgs :=
  ⟨h.len, fun i pg hp => by obtain ⟨p, c, h1, h2⟩ := h.row i pg hp; exact ⟨p, c, h1, k h2⟩⟩
theorem PgAt.snoc {w : World} {B : Nat} {ps : List Value} {pgs : List (List Int)} (h : PgAt w B ps pgs) {p : Option Addr} {c : Nat} {pg : List Int} (o : Owns w B ty_uint8 1 p 64 c (v8 pg)) : PgAt w B (ps ++ [.slice p 64 c]) (pgs ++ [pg]) := by
  refine ⟨by simp [h.len], fun i pg' hp => ?_⟩
  by_cases hi : i < pgs.length
  · rw [List.getElem?_append_left hi] at hp
    obtain ⟨p', c', h1, h2⟩ := h.row i pg' hp
    exact ⟨p', c', by rw [List.getElem?_append_left (by rw [h.len]; exact hi)]; exact h1, h2⟩
  · rw [List.getElem?_append_right (by omega)] at hp
    have h0 : i - pgs.length = 0 := by
      cases hq : i - pgs.length with
      | zero => rfl
      | succ n => rw [hq] at hp; simp at hp
    rw [h0] at hp
    obtain rfl : pg = pg' := by simpa using hp
    refine ⟨p, c, ?_, o⟩
    rw [List.getElem?_append_right (by rw [h.len]; omega), h.len, h0]
    rfl
theorem PgAt.cons {w : World} {B : Nat} {ps : List Value} {pgs : List (List Int)} (h : PgAt w B ps pgs) {p : Option Addr} {c : Nat} {pg : List Int} (o : Owns w B ty_uint8 1 p 64 c (v8 pg)) : PgAt w B (.slice p 64 c :: ps) (pg :: pgs) := by
  refine ⟨by simp [h.len], fun i pg' hp => ?_⟩
  cases i with
  | zero =>
    obtain rfl : pg = pg' := by simpa using hp
    exact ⟨p, c, rfl, o⟩
  | succ i =>
    obtain ⟨p', c', h1, h2⟩ := h.row i pg' (by simpa using hp)
    exact ⟨p', c', by simpa using h1, h2⟩
theorem PgAt.one {w : World} {B : Nat} {ps : List Value} {pgs : List (List Int)} (h : PgAt w B ps pgs) : ∀ z ∈ ps, z.oneCell' = true := by
  intro z hz
  obtain ⟨i, hi⟩ := List.getElem?_of_mem hz
  have hlt : i < pgs.length := by rw [← h.len]; exact (List.getElem?_eq_some_iff.1 hi).1
  obtain ⟨p, c, h1, _⟩ := h.row i _ (List.getElem?_eq_getElem hlt)
  rw [hi] at h1
  cases h1
  rfl

/-! ### Chunk's iterator -/
theorem min2_52' (m : Nat) : min2 52 (m : Int) = ((min 52 m : Nat) : Int) := by unfold min2; split <;> omega
theorem lt_cnt {n j : Nat} (h : 52 * j < n) : j < cnt n := by unfold cnt; omega
theorem cnt_le {n j : Nat} (h : n ≤ 52 * j) : cnt n ≤ j := by unfold cnt; omega
def encC (p : Option Addr) (n : Nat) (j : Nat) : Value := .slice (slA p (52 * j + clen n j) (52 * j) 1) (clen n j) (clen n j)
theorem Chunk_seq {w : World} {B1 B2 q0 q1 : Nat} {p : Option Addr} {n c : Nat} (o0 : Owns w B1 ty_sl_uint8 1 (some ⟨q0, 0, none⟩) 1 1 [.slice p n c]) (o1 : Owns w B2 ty_int 1 (some ⟨q1, 0, none⟩) 1 1 [.int .i64 52]) (hn : n ≤ 100000) (hcap : n ≤ c) :
    SeqStopsK Fence.wide 0 Try.prog 70 #[.pointer (some ⟨q0, 0, none⟩), .pointer (some ⟨q1, 0, none⟩)] (fun x : _root_.Fin (cnt n) => #[encC p n x.val]) (Keep2 q0 q1) (fun xs => xs.map (·.val) = List.range (cnt n)) (fun _ => True) (cnt n) w := by
  intro l J Jx W hb hJ hJx hy h0
  have x := Kp.of_below hb
  have p0 := o0.kp x (fun a ha => by cases ha; have := (o0.ge rfl).2; dsimp only at this ⊢; omega)
  have p1 := o1.kp x (fun a ha => by cases ha; have := (o1.ge rfl).2; dsimp only at this ⊢; omega)
  show slices_Chunk_byte_byte_1_y.C l q0 q1 W _
  apply slices_Chunk_byte_byte_1_y.ok
  unfold slices_Chunk_byte_byte_1_y.main slices_Chunk_byte_byte_1_y.l1
  refine ⟨fun t0 t1 t2 t4 w' => l = t0 ∧ q0 = t1 ∧ q1 = t2 ∧ Cells2 q0 q1 (.slice p n c) (.int .i64 52) w' ∧ ∃ xs : List (_root_.Fin (cnt n)), t4 = ((52 * xs.length : Nat) : Int) ∧ xs.map (·.val) = List.range xs.length ∧ J xs w', fun t0 t1 t2 t4 w' => (n + 52 - t4).toNat, ⟨rfl, rfl, rfl, ⟨p0.at (by rfl), p1.at (by rfl)⟩, [], rfl, rfl, h0⟩, ?_⟩
  rintro _ _ _ t4 w' ⟨rfl, rfl, rfl, ⟨c0, c1⟩, xs, rfl, hxs, hj⟩
  have hlen : xs.length ≤ cnt n := by
    have h1 := len_le_of_sub (List.range xs.length) (List.range (cnt n)) List.nodup_range fun i hi => by
      rw [← hxs] at hi
      obtain ⟨y, _, rfl⟩ := List.mem_map.1 hi
      exact List.mem_range.2 y.isLt
    simpa using h1
  unfold slices_Chunk_byte_byte_1_y.b1
  refine ⟨p, n, c, c0, ?_⟩
  refine cond_of (fun h => ?_) (fun h => ?_)
  · have hlt := of_decide_eq_true h
    have hjlt : xs.length < cnt n := lt_cnt (by omega)
    have hcp := clen_pos hjlt
    have hcd : clen n xs.length = min 52 (n - 52 * xs.length) := rfl
    refine ⟨52, c1, p, n, c, c0, chk_of (decide_eq_true (by omega)) (chk_of (decide_eq_true (by omega)) ⟨p, n, c, c0, ?_⟩)⟩
    rw [Int.toNat_natCast, min2_52', ← hcd]
    have ew : IntKind.i64.wrap (((52 * xs.length : Nat) : Int) + (clen n xs.length : Int)) = ((52 * xs.length + clen n xs.length : Nat) : Int) := by
      rw [w64 (by omega) (by omega)]
      rfl
    rw [ew, Int.toNat_natCast]
    refine chk_of (decide_eq_true (by omega)) (chk_of (decide_eq_true (by omega)) (chk_of (decide_eq_true (by omega)) (chk_of (decide_eq_true (by omega)) (chk_of (decide_eq_true (by omega)) (chk_of (decide_eq_true (by omega)) ?_)))))
    have e2 : 52 * xs.length + clen n xs.length - 52 * xs.length = clen n xs.length := by omega
    rw [e2]
    have hj' : J xs w'.drew := hJ _ _ _ none hj (grown_drew w') (fun r e => by cases e)
    obtain ⟨fn, tmps, assign, body, hrun, hround⟩ := hy xs ⟨xs.length, hjlt⟩ w'.drew hj' hjlt
    refine ⟨fn, tmps, assign, body, hrun, hround.mono fun e w1 he => ?_⟩
    rcases he with ⟨rfl, hj1, hk⟩ | ⟨rfl, hj1⟩
    · refine ⟨_, rfl, ?_⟩
      try dsimp only [dI_i64, dI_u8, dI_u16, dI_u32, dB_bool, dS_slice, dP_ptr, dT_tup, dA_agg, dStr_str, dF_f, dC_c, dM_m, optP_some, ga0, ga1, ga2, ga3, ga4, cond_true, cond_false, chk_true, Bool.not_true, Bool.not_false, Option.isNone_none, Option.isNone_some, List.toList_toArray]
      have hk' := hk _ _ ⟨c0, c1⟩
      refine ⟨52, hk'.2, ?_⟩
      rw [w64 (by omega) (by omega)]
      refine ⟨⟨rfl, rfl, rfl, hk', xs ++ [⟨xs.length, hjlt⟩], ?_, ?_, hj1⟩, by ((try dsimp only); omega)⟩
      · rw [List.length_append, List.length_singleton]; omega
      · rw [List.map_append, hxs, List.length_append, List.length_singleton, List.range_succ]
        rfl
    · refine ⟨_, rfl, ?_⟩
      try dsimp only [dI_i64, dI_u8, dI_u16, dI_u32, dB_bool, dS_slice, dP_ptr, dT_tup, dA_agg, dStr_str, dF_f, dC_c, dM_m, optP_some, ga0, ga1, ga2, ga3, ga4, cond_true, cond_false, chk_true, Bool.not_true, Bool.not_false, Option.isNone_none, Option.isNone_some, List.toList_toArray]
      exact ⟨⟨_, rfl⟩, .inr ⟨_, trivial, hj1⟩⟩
  · have h := of_decide_eq_false h
    have h2 := cnt_le (n := n) (j := xs.length) (by omega)
    have : xs.length = cnt n := by omega
    refine ⟨⟨_, rfl⟩, .inl ⟨xs, ?_, hj⟩⟩
    show xs.map (·.val) = List.range (cnt n)
    rw [hxs, this]
theorem chunk_cells {w : World} {p : Option Addr} {t : List Int} (hc : CellsO w p (v8 t)) {j : Nat} (hj : j < cnt t.length) : CellsO w (slA p (52 * j + clen t.length j) (52 * j) 1) (v8 (chunk t j)) := by
  have h := clen_pos hj
  have h1 := (hc.take (52 * j + clen t.length j)).slice (52 * j + clen t.length j) (52 * j) (clen t.length j) (by rw [List.length_take]; omega)
  rw [List.drop_take, List.take_take] at h1
  have e : min (clen t.length j) (52 * j + clen t.length j - 52 * j) = clen t.length j := by omega
  rw [e] at h1
  unfold chunk v8
  rw [List.map_take, List.map_drop]
  exact h1

/-! ### The round -/
structure CtxB (W : World) (b3 b4 : Nat) (q : Int) (p2 : Option Addr) (n2 : Nat) (part : List Int) (B : Nat) (p9 : Option Addr) (n9 c9 : Nat) (ps : List Value) : Prop where
  k3 : Owns W 0 ty_int 1 (some ⟨b3, 0, none⟩) 1 1 [.int .i64 q]
  k4 : Owns W 0 ty_sl_sl_uint8 1 (some ⟨b4, 0, none⟩) 1 1 [.slice p9 n9 c9]
  cells : CellsO W p2 (v8 part)
  plen : part.length = n2
  p52 : n2 ≤ 52
  pb : Bytes part
  q4 : 0 ≤ q ∧ q < 4294967296
  n256 : n9 < 256
  list : Owns W B ty_sl_uint8 1 p9 n9 c9 ps
  low : B ≤ W.heap.size
section
variable {α : Type} {Kq : World → World → Prop} {I : List α → World → Prop} {pre : List α} {x : α} {W : World} {b3 b4 : Nat} {q : Int} {p2 : Option Addr} {n2 : Nat} {part : List Int} {B : Nat} {p9 : Option Addr} {n9 c9 : Nat} {ps : List Value}
def blk (p : Option Addr) (i : Nat) : Prop := ∃ a, p = some a ∧ a.block = i
def EndB (Kq : World → World → Prop) (I : List α → World → Prop) (pre : List α) (x : α) (W : World) (b4 : Nat) (q : Int) (part : List Int) (B : Nat) (p9 : Option Addr) (n9 : Nat) (ps : List Value) : Prop :=
  ∀ (p8 : Option Addr) (c8 : Nat) (p' : Option Addr) (c' : Nat) (w24 : World), Kp W w24 (blk p9) → Owns w24 W.heap.size ty_uint8 1 p8 64 c8 (v8 (lfP q n9 part)) → Owns w24 B ty_sl_uint8 1 p' (n9 + 1) c' (ps ++ [.slice p8 64 c8]) → leaf_Encode.o1 α Kq I pre x w24 b4 p' n9 c' W
theorem U3 (c : CtxB W b3 b4 q p2 n2 part B p9 n9 c9 ps) (en : EndB Kq I pre x W b4 q part B p9 n9 ps) {w : World} (hx : Ex W w) {p8 : Option Addr} {c8 : Nat} (o : Owns w W.heap.size ty_uint8 1 p8 64 c8 (v8 (lfP q n9 part))) : leaf_Encode.o3 α Kq I pre x w p8 64 c8 b4 p9 n9 c9 W := by
  unfold leaf_Encode.o3
  rintro b7 w23 rfl rfl
  have o7 := Owns.new (w := w) [.slice p8 64 c8] ty_sl_uint8
  have x7 := Ex.alloc w (.cells [Value.slice p8 64 c8].toArray ty_sl_uint8)
  generalize w.alloc (.cells #[.slice p8 64 c8] ty_sl_uint8) = w23 at o7 x7 ⊢
  have hx7 := hx.trans x7
  refine ⟨(c.k4.ex hx7).at (by rfl), ?_⟩
  unfold leaf_Encode.o2
  have hl := c.list.ex hx7
  have hn9 := c.n256
  refine appP_own (B := B) hl (Nat.le_trans c.low hx7.size) [.slice p8 64 c8] o7.cells rfl slice_one rfl (by omega) (by omega) ?_
  intro p' c' w24 o9 k9
  have ht : ∀ i, (∃ y, p9 = some y ∧ y.block = i) → Typed w23 ty_sl_uint8 i := fun i ⟨y, e, hi⟩ => hi ▸ (hl.typed e).1
  exact en p8 c8 p' c' w24 (Kp.trans (hx7.kp _) k9 (fun i _ h => h) (fun i _ ⟨y, e, hi⟩ => ⟨y, e, hi⟩)) ((o.ex x7).away k9 ty_sl_uint8 ht (by decide)) o9
theorem lfT_bytes (c : CtxB W b3 b4 q p2 n2 part B p9 n9 c9 ps) : Bytes (lfT q n9 part) := by
  have h1 := c.n256
  have h2 := c.plen
  have h3 := c.p52
  refine Bytes.append (Bytes.append (Cel.be_byte 4 q) fun x hx => ?_) c.pb
  simp only [List.mem_cons, List.not_mem_nil, or_false] at hx
  omega
theorem U5 (c : CtxB W b3 b4 q p2 n2 part B p9 n9 c9 ps) (en : EndB Kq I pre x W b4 q part B p9 n9 ps) {w : World} (hx : Ex W w) {p6 : Option Addr} {c6 : Nat} (s : Sl W w p6 6 c6 (Cel.be 4 q ++ [(n9 : Int), (n2 : Int)])) : leaf_Encode.o5 α Kq I pre x w p6 6 c6 n2 p2 b4 p9 n9 c9 W := by
  have hp52 := c.p52
  unfold leaf_Encode.o5
  refine appP_own (B := W.heap.size) s hx.size (v8 part) (CellsO.ex hx c.cells) (by rw [v8_len, c.plen, Nat.mul_one]) (v8_one _) rfl (by omega) (by omega) ?_
  intro p7 c7 w20 o7 k7
  have x7 : Ex W w20 := hx.then k7 fun i ⟨y, e, hi⟩ => by have := (Owns.ge s e).1; omega
  refine ⟨(c.k4.ex x7).at (by rfl), ?_⟩
  unfold leaf_Encode.o4
  have et : Cel.be 4 q ++ [(n9 : Int), (n2 : Int)] ++ part = lfT q n9 part := by unfold lfT; rw [c.plen]
  have o7 : Owns w20 W.heap.size ty_uint8 1 p7 (6 + n2) c7 (v8 (lfT q n9 part)) := by rw [← et, ← v8_app]; exact o7
  refine callP.use (sealed_spec p7 (6 + n2) c7 (lfT q n9 part) w20 o7.cells (by rw [lfT_len, c.plen]) (lfT_bytes c) (by omega)) ?_
  rintro _ w21 ⟨p8, c8, rfl, o8, x8⟩
  try dsimp only [dI_i64, dI_u8, dI_u16, dI_u32, dB_bool, dS_slice, dP_ptr, dT_tup, dA_agg, dStr_str, dF_f, dC_c, dM_m, optP_some, ga0, ga1, ga2, ga3, ga4, cond_true, cond_false, chk_true, Bool.not_true, Bool.not_false, Option.isNone_none, Option.isNone_some, List.toList_toArray]
  refine ⟨(c.k4.ex (x7.trans x8)).at (by rfl), ?_⟩
  exact U3 c en (x7.trans x8) (o8.lower x7.size)
theorem U6 (c : CtxB W b3 b4 q p2 n2 part B p9 n9 c9 ps) (en : EndB Kq I pre x W b4 q part B p9 n9 ps) {w : World} (hx : Ex W w) {p5 : Option Addr} {c5 b6 : Nat} (s : Sl W w p5 4 c5 (Cel.be 4 q)) (h6 : Bx w b6 [(n9 : Int), (n2 : Int)]) : leaf_Encode.o6 α Kq I pre x p5 4 c5 b6 w b4 p9 n9 c9 n2 p2 W := by
  have h1 := c.n256
  have h3 := c.p52
  unfold leaf_Encode.o6
  refine putY hx s h6 (rowB1 _ _ ⟨by omega, by omega⟩ ⟨by omega, by omega⟩) 6 2 rfl rfl (by omega) (by decide) fun p c' w' x g h => ?_
  dsimp only [dS_slice]
  exact ⟨(c.k4.ex x).at (by rfl), U5 c en x h⟩
theorem put0 (c : CtxB W b3 b4 q p2 n2 part B p9 n9 c9 ps) {w : World} {N : Value → World → Prop} {X : List PanicEntry → World → Prop} (hx : Ex W w) {b5 : Nat} (h5 : Bx w b5 [q])
    (K : ∀ p c w', Ex W w' → (∀ b l, Bx w b l → Bx w' b l) → Sl W w' p 4 c (Cel.be 4 q) → N (.slice p 4 c) w') : callP Try.prog 52 #[.slice none 0 0, .int .i64 4, .slice (some ⟨b5, 0, none⟩) 1 1] w N X :=
  putY hx (p := none) (n := 0) (c := 0) (xs := []) (Owns.nil _ _ _ _) h5 (row_four c.q4) 4 1 (by rw [Cel.be_length]) rfl (by omega) (by decide) K
theorem U7 (c : CtxB W b3 b4 q p2 n2 part B p9 n9 c9 ps) (en : EndB Kq I pre x W b4 q part B p9 n9 ps) {w : World} (hx : Ex W w) {p5 : Option Addr} {c5 : Nat} (s : Sl W w p5 4 c5 (Cel.be 4 q)) : leaf_Encode.o7 α Kq I pre x w n9 n2 b4 p9 n9 c9 p5 4 c5 p2 W := by
  unfold leaf_Encode.o7
  refine newBx hx [(n9 : Int), (n2 : Int)] fun b6 w17 x h => ?_
  exact ⟨(c.k4.ex (hx.trans x)).at (by rfl), U6 c en (hx.trans x) (s.ex x) h⟩
theorem U8 (c : CtxB W b3 b4 q p2 n2 part B p9 n9 c9 ps) (en : EndB Kq I pre x W b4 q part B p9 n9 ps) {w : World} (hx : Ex W w) {b5 b8 : Nat} (h5 : Bx w b5 [q]) (h8 : Bx w b8 [(n9 : Int), (n2 : Int)]) : leaf_Encode.o8 α Kq I pre x b5 w b4 p9 n9 c9 b8 n2 p2 W := by
  unfold leaf_Encode.o8
  refine put0 c hx h5 fun p c' w' x g h => ?_
  dsimp only [dS_slice]
  exact ⟨(c.k4.ex x).at (by rfl), U6 c en x h (g _ _ h8)⟩
theorem U9 (c : CtxB W b3 b4 q p2 n2 part B p9 n9 c9 ps) (en : EndB Kq I pre x W b4 q part B p9 n9 ps) {w : World} (hx : Ex W w) {b5 : Nat} (h5 : Bx w b5 [q]) : leaf_Encode.o9 α Kq I pre x b5 w b4 p9 n9 c9 p9 n9 c9 n2 p2 W := by
  unfold leaf_Encode.o9
  refine ⟨?_, ?_⟩
  · refine put0 c hx h5 fun p c' w' x g h => ?_
    dsimp only [dS_slice]
    exact ⟨(c.k4.ex x).at (by rfl), (c.k4.ex x).at (by rfl), U7 c en x h⟩
  · refine newBx hx [(n9 : Int), (n2 : Int)] fun b8 w26 x h => ?_
    exact ⟨(c.k4.ex (hx.trans x)).at (by rfl), U8 c en (hx.trans x) (h5.ex x) h⟩
theorem U10 (c : CtxB W b3 b4 q p2 n2 part B p9 n9 c9 ps) (en : EndB Kq I pre x W b4 q part B p9 n9 ps) {w : World} (hx : Ex W w) {b10 : Nat} (h10 : Bx w b10 [(n9 : Int), (n2 : Int)]) : leaf_Encode.o10 α Kq I pre x w q b4 p9 n9 c9 b10 n2 p2 W := by
  unfold leaf_Encode.o10
  refine newBx hx [q] fun b11 w38 x h => ?_
  exact ⟨(c.k4.ex (hx.trans x)).at (by rfl), U8 c en (hx.trans x) h (h10.ex x)⟩
theorem U11 (c : CtxB W b3 b4 q p2 n2 part B p9 n9 c9 ps) (en : EndB Kq I pre x W b4 q part B p9 n9 ps) : leaf_Encode.o11 α Kq I pre x W q b4 p9 n9 c9 p9 n9 c9 n2 p2 b3 := by
  unfold leaf_Encode.o11
  have hx := Ex.drew W
  refine ⟨?_, ?_⟩
  · refine newBx hx [q] fun b5 w14 x h => ?_
    exact ⟨(c.k4.ex (hx.trans x)).at (by rfl), (c.k4.ex (hx.trans x)).at (by rfl), U9 c en (hx.trans x) h⟩
  · refine newBx hx [(n9 : Int), (n2 : Int)] fun b10 w37 x h => ?_
    exact ⟨(c.k3.ex (hx.trans x)).at (by rfl), (c.k4.ex (hx.trans x)).at (by rfl), U10 c en (hx.trans x) h⟩
end
end Go.Proofs.Ythgmebhkbbehmaa.G.En
namespace Go.Proofs.Ythgmebhkbbehmaa.G.En
open Go.Dec Go.RowKit
set_option linter.unusedVariables false
set_option linter.unusedSimpArgs false

theorem snd_len {e : Ent} (h : Snd e) : e.2.2.length ≤ 32 := by
  by_cases h0 : e.1 = 0
  · have := h.2.2.1 h0
    have := h.1
    omega
  · have := h.2.2.2 h0
    have := h.1
    omega
theorem pay_le {R : Sta} (h8 : R.length = 8) (h : SndR R) (m : Int) : (pay m R).length ≤ 528 := by
  have key : ∀ k, k ≤ 8 → (pay m (R.take k)).length ≤ k * 66 := by
    intro k
    induction k with
    | zero => intro _; simp [pay]
    | succ k ih =>
      intro hk
      have hk' : k < R.length := by omega
      rw [take_pay (List.getElem?_eq_getElem hk'), List.length_append, payE_len]
      have h1 := snd_len (h _ (List.getElem_mem hk'))
      have h3 := ih (by omega)
      omega
  have := key 8 (Nat.le_refl _)
  rw [List.take_of_length_le (by omega)] at this
  exact this
theorem pay_ge {R : Sta} (h8 : R.length = 8) (m : Int) : 16 ≤ (pay m R).length := by
  have key : ∀ k, k ≤ 8 → k * 2 ≤ (pay m (R.take k)).length := by
    intro k
    induction k with
    | zero => intro _; simp [pay]
    | succ k ih =>
      intro hk
      have hk' : k < R.length := by omega
      rw [take_pay (List.getElem?_eq_getElem hk'), List.length_append, payE_len]
      have h3 := ih (by omega)
      omega
  have := key 8 (Nat.le_refl _)
  rw [List.take_of_length_le (by omega)] at this
  exact this
def okSeq (q : Int) : Prop := 1 ≤ q ∧ q ≤ 1073741824
structure Laid (w : World) (B9 b2 b3 b4 : Nat) (s m q : Int) (t : List Int) (p1 : Option Addr) (c1 : Nat) (xs : List Nat) (W : World) : Prop where
  ex : Ex w W
  k2 : Owns W 0 ty_api_Plat 2 (some ⟨b2, 0, none⟩) 1 1 (two s m)
  k3 : Owns W 0 ty_int 1 (some ⟨b3, 0, none⟩) 1 1 [.int .i64 q]
  text : Owns W 0 ty_uint8 1 p1 t.length c1 (v8 t)
  low : B9 ≤ W.heap.size
  out : ∃ p9 c9 ps, Owns W 0 ty_sl_sl_uint8 1 (some ⟨b4, 0, none⟩) 1 1 [.slice p9 xs.length c9] ∧ Owns W B9 ty_sl_uint8 1 p9 xs.length c9 ps ∧ PgAt W w.heap.size ps (lv q t xs)
theorem Laid.grown {w W W' : World} {B9 b2 b3 b4 C : Nat} {s m q : Int} {t : List Int} {p1 : Option Addr} {c1 : Nat} {xs : List Nat} (h : Laid w B9 b2 b3 b4 s m q t p1 c1 xs W) (k : Kp W W' (NoC W C)) (hC : w.heap.size ≤ C) : Laid w B9 b2 b3 b4 s m q t p1 c1 xs W' := by
  obtain ⟨h1, h2, h3, h4, hl, p9, c9, ps, h5, h6, h7⟩ := h
  exact ⟨h1.later k hC, h2.grown k, h3.grown k, h4.grown k, Nat.le_trans hl k.size, p9, c9, ps, h5.grown k, h6.grown k, h7.grown k⟩
theorem crc_row (t : List Int) : Cel.rowB 4 [u (more 0#32 t)] = Cel.be 4 (u (more 0#32 t)) := row_four (u_lt _)
theorem hdT_bytes {H : Hd} (h : H.Ok) (t : List Int) : Bytes (hdT H t) := by
  refine Bytes.append (Bytes.append (Bytes.append (Bytes.append slat_bytes (Cel.be_byte _ _)) fun x hx => ?_) (Cel.be_byte _ _)) (Cel.be_byte _ _)
  have h1 := h.s
  have h2 := h.k
  have h3 := h.m
  simp only [List.mem_cons, List.not_mem_nil, or_false] at hx
  omega
theorem Encode_all {w : World} {R : Sta} {ps : List Value} (h : StAt w R ps) (s m q : Int) : leaf_Encode.C (stC R ps).toArray s m q w (Ret fun v w' => Ex w w' ∧
    ((okSeq q ∧ FitR s m R ∧ ∃ p n c ps', v = .tuple #[.slice p n c, .int .i64 0] ∧ Owns w' w.heap.size ty_sl_uint8 1 p n c ps' ∧ PgAt w' w.heap.size ps' (laidAs s m q (pay m R))) ∨
     (¬(okSeq q ∧ FitR s m R) ∧ ∃ e, e ≠ 0 ∧ v = .tuple #[.slice none 0 0, .int .i64 e]))) := by
  apply leaf_Encode.ok
  unfold leaf_Encode.main
  rintro b1 w1 rfl rfl b2 w2 rfl rfl b3 w3 rfl rfl
  have o1 := Owns.new (w := w) (stC R ps) ty_api_State
  have x1 := Ex.alloc w (.cells (stC R ps).toArray ty_api_State)
  generalize hb1 : w.heap.size = b1 at o1 ⊢
  generalize w.alloc (.cells (stC R ps).toArray ty_api_State) = w1 at o1 x1 ⊢
  have o2 := (Owns.new (w := w1) (two s m) ty_api_Plat).lower (Nat.zero_le _)
  have x2 := Ex.alloc w1 (.cells (two s m).toArray ty_api_Plat)
  have e2 : w1.alloc (.cells #[.int .i64 s, .int .i64 m] ty_api_Plat) = w1.alloc (.cells (two s m).toArray ty_api_Plat) := rfl
  rw [e2]
  generalize w1.heap.size = b2 at o2 ⊢
  generalize w1.alloc (.cells (two s m).toArray ty_api_Plat) = w2 at o2 x2 ⊢
  have o3 := (Owns.new (w := w2) [.int .i64 q] ty_int).lower (Nat.zero_le _)
  have x3 := Ex.alloc w2 (.cells [Value.int .i64 q].toArray ty_int)
  generalize w2.heap.size = b3 at o3 ⊢
  generalize w2.alloc (.cells #[.int .i64 q] ty_int) = w3 at o3 x3 ⊢
  have o1 := o1.ex (x2.trans x3)
  have o2 := o2.ex x3
  have hx := x1.trans (x2.trans x3)
  clear x1 x2 x3
  have bad : ∀ {w' : World} {e : Int}, Ex w3 w' → ¬(okSeq q ∧ FitR s m R) → e ≠ 0 → Ret (fun v w' => Ex w w' ∧
      ((okSeq q ∧ FitR s m R ∧ ∃ p n c ps', v = .tuple #[.slice p n c, .int .i64 0] ∧ Owns w' b1 ty_sl_uint8 1 p n c ps' ∧ PgAt w' b1 ps' (laidAs s m q (pay m R))) ∨
       (¬(okSeq q ∧ FitR s m R) ∧ ∃ e, e ≠ 0 ∧ v = .tuple #[.slice none 0 0, .int .i64 e]))) (.returned (.tuple #[.slice none 0 0, .int .i64 e])) w' := fun hx' hn he => Ret.mk ⟨hx.trans hx', .inr ⟨hn, _, he, rfl⟩⟩
  refine ⟨q, o3.at (by rfl), ?_⟩
  refine cond_of (fun hc => ?_) (fun hc => ?_)
  · have hc := of_decide_eq_true hc
    exact bad (Ex.refl _) (fun h => by have := h.1.1; omega) (by decide)
  have hq1 := of_decide_eq_false hc
  refine ⟨q, o3.at (by rfl), ?_⟩
  refine cond_of (fun hc => ?_) (fun hc => ?_)
  · have hc := of_decide_eq_true hc
    exact bad (Ex.refl _) (fun h => by have := h.1.2; omega) (by decide)
  have hq2 := of_decide_eq_false hc
  have hq : okSeq q := ⟨by omega, by omega⟩
  have h3 := h.ex hx
  refine ⟨(stC R ps).toArray, by rw [List.size_toArray]; exact h.clen, o1.cells, (two s m).toArray, rfl, o2.cells, ?_⟩
  refine callP.use (Fit_all h3 s m) ?_
  rintro _ w4 ⟨⟨e, rfl, he⟩, x4⟩
  try dsimp only [dI_i64, dI_u8, dI_u16, dI_u32, dB_bool, dS_slice, dP_ptr, dT_tup, dA_agg, dStr_str, dF_f, dC_c, dM_m, optP_some, ga0, ga1, ga2, ga3, ga4, cond_true, cond_false, chk_true, Bool.not_true, Bool.not_false, Option.isNone_none, Option.isNone_some, List.toList_toArray]
  refine cond_of (fun hc => ?_) (fun hc => ?_)
  · have hc : ¬ e = 0 := by simpa using hc
    exact bad x4 (fun h => hc (he.2 h.2)) hc
  have hc : e = 0 := by simpa using hc
  have hF := he.1 hc
  have hh := may_iff.1 hF.1.1
  have hple := pay_le h.len hF.1.2.1 m
  have hpge := pay_ge h.len m
  have hpb := pay_bytes (k := m) h.ok
  refine ⟨(stC R ps).toArray, by rw [List.size_toArray]; exact h.clen, (o1.ex x4).cells, (two s m).toArray, rfl, (o2.ex x4).cells, ?_⟩
  refine callP.use (payload_all (h3.ex x4) hF) ?_
  rintro _ w6 ⟨⟨p1, c1, rfl, o6⟩, x6⟩
  try dsimp only [dI_i64, dI_u8, dI_u16, dI_u32, dB_bool, dS_slice, dP_ptr, dT_tup, dA_agg, dStr_str, dF_f, dC_c, dM_m, optP_some, ga0, ga1, ga2, ga3, ga4, cond_true, cond_false, chk_true, Bool.not_true, Bool.not_false, Option.isNone_none, Option.isNone_some, List.toList_toArray]
  generalize pay m R = t at *
  have o6 : Owns w6 0 ty_uint8 1 p1 t.length c1 (v8 t) := o6.lower (Nat.zero_le _)
  have x46 := x4.trans x6
  have o2 := o2.ex x46
  have o3 := o3.ex x46
  have hx := hx.trans x46
  clear x4 x6 x46 o1 bad
  rintro b4 w8 rfl rfl
  have hb4 : w.heap.size ≤ w6.heap.size := hx.size
  have o4 := (Owns.new (w := w6) [.slice none 0 0] ty_sl_sl_uint8).lower (Nat.zero_le _)
  have x8 := Ex.alloc w6 (.cells [Value.slice none 0 0].toArray ty_sl_sl_uint8)
  generalize w6.heap.size = b4 at o4 hb4 ⊢
  generalize w6.alloc (.cells #[.slice none 0 0] ty_sl_sl_uint8) = w8 at o4 x8 ⊢
  have o2 := o2.ex x8
  have o3 := o3.ex x8
  have o6 := o6.ex x8
  have hx := hx.trans x8
  clear x8
  refine callP.use (Chunk_spec p1 t.length c1 w8) ?_
  rintro _ w9 ⟨q0, q1, rfl, x9, r0, r1⟩
  refine chk_of (by rfl) ?_
  have o2 := o2.ex x9
  have o3 := o3.ex x9
  have o6 := o6.ex x9
  have h4lt : b4 < w8.heap.size := (o4.ge rfl).2
  have o4 := o4.ex x9
  have hq0 : w8.heap.size ≤ q0 := (r0.ge rfl).1
  have hq1 : w8.heap.size ≤ q1 := (r1.ge rfl).1
  have hq0' : q0 < w9.heap.size := (r0.ge rfl).2
  have hq1' : q1 < w9.heap.size := (r1.ge rfl).2
  have hx := hx.trans x9
  have hx89 := x9.size
  clear x9
  have hw9 := hx.size
  have hc11 : cnt t.length ≤ 11 := by unfold cnt; omega
  refine ⟨_root_.Fin (cnt t.length), fun x => encC p1 t.length x.val, Keep2 q0 q1, fun xs => xs.map (·.val) = List.range (cnt t.length), fun _ => True, cnt t.length,
    fun xs W => Laid w w9.heap.size b2 b3 b4 s m q t p1 c1 (xs.map (·.val)) W ∧ Cells2 q0 q1 (.slice p1 t.length c1) (.int .i64 52) W, fun _ _ => False, ?_, ?_, ?_, ?_⟩
  · refine ⟨Chunk_seq r0 r1 (by omega) o6.2.1, fun h k => h.trans k, fun W l o o' _ ho hc _ => Keep2.book W l o o' ho hc, ?_, fun _ _ _ _ h => h.elim, ⟨⟨hx, o2, o3, o6, Nat.le_refl _, none, 0, [], o4, Owns.nil _ _ _ _, PgAt.nil _ _⟩, ⟨r0.at (by rfl), r1.at (by rfl)⟩⟩⟩
    intro xs W W' row hI hgr hr
    have k := Kp.grown hgr hr
    refine ⟨hI.1.grown k hw9, ?_⟩
    have two : ∀ {a : Addr} {v : Value}, W.cell? a = some v → W'.cell? a = some v := fun {a v} hv => k.cell hv fun hn => by
      obtain ⟨_, o, ho, hcl⟩ := hn
      unfold World.cell? at hv
      rw [ho] at hv
      cases o <;> first | (simp at hv; done) | (cases hcl; done)
    exact ⟨two hI.2.1, two hI.2.2⟩
  · intro pre x w11 hI hpre
    obtain ⟨⟨g1, g2, g3, g4, gl, p9, c9, rs, g5, g6, g7⟩, hcells⟩ := hI
    have hxj := x.isLt
    have hcp := clen_pos hxj
    have hcl := chunk_len t x.val
    unfold encC
    try dsimp only [dI_i64, dI_u8, dI_u16, dI_u32, dB_bool, dS_slice, dP_ptr, dT_tup, dA_agg, dStr_str, dF_f, dC_c, dM_m, optP_some, ga0, ga1, ga2, ga3, ga4, cond_true, cond_false, chk_true, Bool.not_true, Bool.not_false, Option.isNone_none, Option.isNone_some, List.toList_toArray]
    have d := Ex.drew w11
    refine ⟨p9, _, c9, (g5.ex d).at (by rfl), q, (g3.ex d).at (by rfl), p9, _, c9, (g5.ex d).at (by rfl), ?_⟩
    have hlen : (pre.map (·.val)).length < 256 := by
      rw [List.length_map]
      omega
    refine U11 (part := chunk t x.val) (B := w9.heap.size) (ps := rs) ⟨g3, g5, chunk_cells g4.cells hxj, hcl, hcp.2.2, (hpb.drop _).take _, ⟨by have := hq.1; omega, by have := hq.2; omega⟩, hlen, g6, gl⟩ ?_
    intro p8 c8 p' c' w24 k24 t8 t9
    unfold leaf_Encode.o1
    have tl : ∀ i, blk p9 i → Typed w11 ty_sl_uint8 i := fun i ⟨y, e, hi⟩ => hi ▸ (g6.typed e).1
    have k4 := g5.away k24 ty_sl_uint8 tl (by decide)
    refine k4.put1 (Nat.lt_succ_self 0) (by rfl) fun w25 k25 o25 => ?_
    have kD : Kp w11 w25 fun i => blk p9 i ∨ i = b4 := Kp.trans k24 k25 (fun i _ h => .inl h) (fun i _ h => .inr h)
    have b4t := (k4.typed rfl).1
    have tt : ∀ i, i = b4 → Typed w24 ty_sl_sl_uint8 i := fun i hi => by rw [hi]; exact b4t
    have far : ∀ i, i < w9.heap.size → b4 ≠ i → ¬ (blk p9 i ∨ i = b4) := fun i hi hne h => by
      rcases h with ⟨y, e, hy⟩ | h
      · have := (g6.ge e).1
        omega
      · exact hne h.symm
    have two : Cells2 q0 q1 (.slice p1 t.length c1) (.int .i64 52) w25 := ⟨kD.cell hcells.1 (far _ hq0' (by dsimp only; omega)), kD.cell hcells.2 (far _ hq1' (by dsimp only; omega))⟩
    refine ⟨KeepsOthers.of_kp kD ?_, ?_, ?_, two⟩
    · rintro i _ (hi | rfl)
      · exact ⟨_, tl i hi⟩
      · exact ⟨_, (g5.typed rfl).1⟩
    · intro v0 v1 hc
      have e0 := hc.1.symm.trans hcells.1
      have e1 := hc.2.symm.trans hcells.2
      cases e0
      cases e1
      exact two
    · have eM : (pre ++ [x]).map (·.val) = pre.map (·.val) ++ [x.val] := by simp
      have eL : (pre.map (·.val) ++ [x.val]).length = (pre.map (·.val)).length + 1 := by simp
      rw [eM]
      have n1 : ty_api_Plat ≠ ty_sl_uint8 := by decide
      have n2 : ty_int ≠ ty_sl_uint8 := by decide
      have n3 : ty_uint8 ≠ ty_sl_uint8 := by decide
      refine ⟨(g1.then k24 fun i ⟨y, e, hi⟩ => by have := (g6.ge e).1; omega).then k25 fun i hi => by omega, (g2.away k24 ty_sl_uint8 tl n1).away k25 ty_sl_sl_uint8 tt (by decide), (g3.away k24 ty_sl_uint8 tl n2).away k25 ty_sl_sl_uint8 tt (by decide), (g4.away k24 ty_sl_uint8 tl n3).away k25 ty_sl_sl_uint8 tt (by decide), Nat.le_trans gl kD.size, p', c', rs ++ [.slice p8 64 c8], ?_, ?_, ?_⟩
      · rw [eL]
        exact o25
      · rw [eL]
        exact t9.away k25 ty_sl_sl_uint8 tt (by decide)
      · rw [lv_snoc]
        exact ((g7.away k24 ty_sl_uint8 tl n3).away k25 ty_sl_sl_uint8 tt (by decide)).snoc ((t8.lower g1.size).away k25 ty_sl_sl_uint8 tt (by decide))
  · intro D xs w12 hD hxs hI hdef
    have hxs : xs.map (·.val) = List.range (cnt t.length) := hxs
    obtain ⟨⟨g1, g2, g3, g4, gl, p9, c9, rs, g5, g6, g7⟩, _⟩ := hI
    rw [hxs, List.length_range] at g5 g6
    rw [hxs] at g7
    have d := Ex.drew w12
    have hcn : cnt t.length < 256 := by unfold cnt; omega
    refine ⟨q, (g3.ex d).at (by rfl), s, (g2.ex d).at (by rfl), m, (g2.ex d).at (by rfl), p9, _, c9, (g5.ex d).at (by rfl), ?_⟩
    have hok : (hdOf s m q t).Ok := ⟨⟨by have := hq.1; show 0 ≤ q; omega, by have := hq.2; show q < _; omega⟩, ⟨by show 0 ≤ s; omega, by show s < _; omega⟩, ⟨by show 0 ≤ m; omega, by show m < _; omega⟩, hcn, by show t.length < _; omega⟩
    refine T47 (H := hdOf s m q t) ⟨hok, g2, g3, g5⟩ ?_ (Ex.refl w12)
    intro p23 c23 w58 x58 s3
    have d58 := x58.trans (Ex.drew w58)
    refine ⟨p9, _, c9, (g5.ex d58).at (by rfl), ?_⟩
    unfold leaf_Encode.o17
    refine callP.use (Sum_spec p1 t.length c1 t _ (g4.ex d58).cells rfl (by omega) hpb) ?_
    rintro _ w60 ⟨rfl, x60⟩
    try dsimp only [dI_i64, dI_u8, dI_u16, dI_u32, dB_bool, dS_slice, dP_ptr, dT_tup, dA_agg, dStr_str, dF_f, dC_c, dM_m, optP_some, ga0, ga1, ga2, ga3, ga4, cond_true, cond_false, chk_true, Bool.not_true, Bool.not_false, Option.isNone_none, Option.isNone_some, List.toList_toArray]
    have h60 := d58.trans x60
    have s3 := (s3.ex (Ex.drew w58)).ex x60
    refine ⟨(g5.ex h60).at (by rfl), ?_⟩
    unfold leaf_Encode.o16
    have hcr := u_lt (more 0#32 t)
    rw [w64 (x := u (more 0#32 t)) (by omega) (by omega)]
    refine newBx h60 [u (more 0#32 t)] fun b17 w62 x62 hb17 => ?_
    have h62 := h60.trans x62
    have s3 := s3.ex x62
    refine ⟨(g5.ex h62).at (by rfl), ?_⟩
    unfold leaf_Encode.o15
    refine putY h62 s3 hb17 (crc_row t) 17 1 (by rw [Cel.be_length]) rfl (by omega) (by decide) fun p25 c25 w63 x63 _ s4 => ?_
    dsimp only [dS_slice]
    refine ⟨(g5.ex x63).at (by rfl), ?_⟩
    unfold leaf_Encode.o14
    refine callP.use (sealed_spec p25 17 c25 (hdT (hdOf s m q t) t) w63 (Owns.cells s4) (hdT_len _ _) (hdT_bytes hok t) (by omega)) ?_
    rintro _ w65 ⟨p26, c26, rfl, o26, x65⟩
    try dsimp only [dI_i64, dI_u8, dI_u16, dI_u32, dB_bool, dS_slice, dP_ptr, dT_tup, dA_agg, dStr_str, dF_f, dC_c, dM_m, optP_some, ga0, ga1, ga2, ga3, ga4, cond_true, cond_false, chk_true, Bool.not_true, Bool.not_false, Option.isNone_none, Option.isNone_some, List.toList_toArray]
    have h65 := x63.trans x65
    refine ⟨(g5.ex h65).at (by rfl), ?_⟩
    unfold leaf_Encode.o13
    rintro b18 w67 rfl rfl
    have o18 := Owns.new (w := w65) [.slice p26 64 c26] ty_sl_uint8
    have x67 := Ex.alloc w65 (.cells [Value.slice p26 64 c26].toArray ty_sl_uint8)
    have hb18 : w12.heap.size ≤ w65.heap.size := h65.size
    generalize w65.heap.size = b18 at o18 hb18 ⊢
    generalize w65.alloc (.cells #[.slice p26 64 c26] ty_sl_uint8) = w67 at o18 x67 ⊢
    have h67 := h65.trans x67
    refine ⟨(g5.ex h67).at (by rfl), ?_⟩
    unfold leaf_Encode.o12
    have hB : w.heap.size ≤ b18 := Nat.le_trans g1.size hb18
    refine appP_own (B := w.heap.size) (o18.lower hB) (g1.trans h67).size rs (g6.ex h67).cells g6.1 g7.one rfl (by omega) (by omega) ?_
    intro p27 c27 w68 o27 k68
    have k68' : Kp w67 w68 fun i => i = b18 := k68.mono fun i _ ⟨y, e, hi⟩ => by cases e; exact hi.symm
    have h68 : Ex w12 w68 := h67.then k68' fun i hi => by omega
    have hdlt : D < w12.heap.size := (Array.getElem?_eq_some_iff.1 hdef).1
    have hd68 : w68.heap[D]? = some (.deferred (some [])) := by rw [h68.block D hdlt id]; exact hdef
    refine ⟨hd68, ?_⟩
    have kf := Kp.putObj w68 D (.deferred none)
    have hnc : ∀ i, i = D → NoC w68 0 i := fun i hi => ⟨Nat.zero_le _, .deferred (some []), by rw [hi]; exact hd68, rfl⟩
    have keep : ∀ {B e sz n c : Nat} {p : Option Addr} {xs : List Value}, Owns w68 B e sz p n c xs → Owns (w68.putObj D (.deferred none)) B e sz p n c xs := fun o => o.kp kf fun y hy hi => (hnc _ hi).typed (o.typed hy).1
    have t18 : ∀ i, i = b18 → Typed w67 ty_sl_uint8 i := fun i hi => by rw [hi]; exact (o18.typed rfl).1
    have f26 : Owns w68 w.heap.size ty_uint8 1 p26 64 c26 (v8 (hdP (hdOf s m q t) t)) := ((o26.lower (g1.trans x63).size).ex x67).away k68' ty_sl_uint8 t18 (by decide)
    have f8 := (g7.ex h67).away k68' ty_sl_uint8 t18 (by decide)
    subst hb1
    refine Ret.mk ⟨(g1.trans h68).then kf fun i hi => by rw [hi]; exact Nat.le_trans hx.size hD, .inl ⟨hq, hF, p27, _, c27, _, rfl, keep o27, ?_⟩⟩
    exact (f8.cons f26).keep fun o => keep o
  · intro D pre w13 _ _ hI _
    exact hI.elim
end Go.Proofs.Ythgmebhkbbehmaa.G.En

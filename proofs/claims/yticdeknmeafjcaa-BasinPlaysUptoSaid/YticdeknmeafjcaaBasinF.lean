/-
  The law BasinAll: several devices beside each other; the walk.
-/
import Derived.Test.YticdeknmeafjcaaBasinE
namespace Go.Proofs.Yticdeknmeafjcaa.G
open Go.Dec Go.RowKit
set_option linter.unusedVariables false
set_option linter.unusedSimpArgs false

theorem DevIs.lower {w : World} {B B' pd : Nat} {d : Dev} {D : Nat → Prop} (h : DevIs w B pd d D) (hB : B' ≤ B) : DevIs w B' pd d D := by
  obtain ⟨bs, bn, pl, ml, h, hD⟩ := h
  exact ⟨bs, bn, pl, ml, ⟨h.cell.lower hB, h.su.lower hB, h.no.lower hB, h.lo.lower hB, h.ne⟩, hD⟩
/-- a device that works -/
structure Dv (w : World) (B px : Nat) (X : Dev) (D : Nat → Prop) : Prop where
  dev : DevIs w B px X D
  good : Good X
  live : Live X
theorem Dv.ex {w w' : World} {B px : Nat} {X : Dev} {D : Nat → Prop} (h : Dv w B px X D) (hx : Ex w w') : Dv w' B px X D := ⟨h.dev.ex hx, h.good, h.live⟩
def Dj (D E : Nat → Prop) : Prop := ∀ i, D i → ¬ E i
theorem Dj.symm {D E : Nat → Prop} (h : Dj D E) : Dj E D := fun i he hd => h i hd he
theorem Dv.other {w w' : World} {B px : Nat} {X : Dev} {D E : Nat → Prop} (h : Dv w B px X D) (hk : Kp w w' E) (hj : Dj E D) : Dv w' B px X D := ⟨h.dev.kp hk fun i hi he => hj i he hi, h.good, h.live⟩

/-! ### Devices beside each other -/
def Devz (w : World) (B : Nat) : List (Nat × Dev) → (Nat → Prop) → Prop
  | [], D => ∀ i, ¬ D i
  | x :: r, D => ∃ E F, Dv w B x.1 x.2 E ∧ Devz w B r F ∧ Dj E F ∧ ∀ i, D i ↔ E i ∨ F i
theorem Devz.nil {w : World} {B : Nat} {D : Nat → Prop} : Devz w B [] D ↔ ∀ i, ¬ D i := Iff.rfl
theorem Devz.cons {w : World} {B : Nat} {x : Nat × Dev} {r : List (Nat × Dev)} {D : Nat → Prop} : Devz w B (x :: r) D ↔ ∃ E F, Dv w B x.1 x.2 E ∧ Devz w B r F ∧ Dj E F ∧ ∀ i, D i ↔ E i ∨ F i := Iff.rfl
theorem Devz.lt {w : World} {B : Nat} : ∀ {l : List (Nat × Dev)} {D : Nat → Prop}, Devz w B l D → ∀ i, D i → i < w.heap.size
  | [], D, h, i, hi => absurd hi (h i)
  | x :: r, D, h, i, hi => by
    obtain ⟨E, F, h1, h2, h3, h4⟩ := Devz.cons.1 h
    rcases (h4 i).1 hi with hi | hi
    · exact (h1.dev.typed hi).2.2
    · exact Devz.lt h2 i hi
theorem Devz.typed {w : World} {B : Nat} : ∀ {l : List (Nat × Dev)} {D : Nat → Prop}, Devz w B l D → ∀ i, D i → Typed w 62 i ∨ Typed w 66 i ∨ Typed w 68 i
  | [], D, h, i, hi => absurd hi (h i)
  | x :: r, D, h, i, hi => by
    obtain ⟨E, F, h1, h2, h3, h4⟩ := Devz.cons.1 h
    rcases (h4 i).1 hi with hi | hi
    · exact (h1.dev.typed hi).1
    · exact Devz.typed h2 i hi
theorem Devz.other {w w' : World} {B : Nat} {S : Nat → Prop} (hk : Kp w w' S) : ∀ {l : List (Nat × Dev)} {D : Nat → Prop}, Devz w B l D → Dj S D → Devz w' B l D
  | [], D, h, hj => h
  | x :: r, D, h, hj => by
    obtain ⟨E, F, h1, h2, h3, h4⟩ := Devz.cons.1 h
    exact Devz.cons.2 ⟨E, F, h1.other hk fun i hs he => hj i hs ((h4 i).2 (.inl he)), Devz.other hk h2 fun i hs hf => hj i hs ((h4 i).2 (.inr hf)), h3, h4⟩
theorem Devz.perm {w : World} {B : Nat} {l l' : List (Nat × Dev)} (hp : l.Perm l') : ∀ {D : Nat → Prop}, Devz w B l D → Devz w B l' D := by
  induction hp with
  | nil => exact id
  | cons x hp ih =>
    intro D h
    obtain ⟨E, F, h1, h2, h3, h4⟩ := Devz.cons.1 h
    exact Devz.cons.2 ⟨E, F, h1, ih h2, h3, h4⟩
  | swap x y r =>
    intro D h
    obtain ⟨E, F, h1, h2, h3, h4⟩ := Devz.cons.1 h
    obtain ⟨E2, F2, k1, k2, k3, k4⟩ := Devz.cons.1 h2
    refine Devz.cons.2 ⟨E2, fun i => E i ∨ F2 i, k1, Devz.cons.2 ⟨E, F2, h1, k2, fun i he hf => h3 i he ((k4 i).2 (.inr hf)), fun i => Iff.rfl⟩, fun i he hf => ?_, fun i => ?_⟩
    · rcases hf with hf | hf
      · exact h3 i hf ((k4 i).2 (.inl he))
      · exact k3 i he hf
    · rw [h4 i, k4 i]
      constructor
      · rintro (h | h | h)
        · exact .inr (.inl h)
        · exact .inl h
        · exact .inr (.inr h)
      · rintro (h | h | h)
        · exact .inr (.inl h)
        · exact .inl h
        · exact .inr (.inr h)
  | trans _ _ ih1 ih2 => exact fun h => ih2 (ih1 h)
def Devs (w : World) (B : Nat) (l : List (Nat × Dev)) : Prop := ∃ D, Devz w B l D
theorem Devs.ex {w w' : World} {B : Nat} {l : List (Nat × Dev)} (h : Devs w B l) (hx : Ex w w') : Devs w' B l := by
  obtain ⟨D, h⟩ := h
  exact ⟨D, h.other hx fun i hi => hi.elim⟩
theorem Devs.rot {w : World} {B : Nat} {x : Nat × Dev} {l : List (Nat × Dev)} (h : Devs w B (x :: l)) : Devs w B (l ++ [x]) := by
  obtain ⟨D, h⟩ := h
  exact ⟨D, h.perm (List.perm_append_comm (l₁ := [x]) (l₂ := l))⟩
/-- one more, made new -/
theorem Devs.push {w w' : World} {B B' : Nat} {x : Nat × Dev} {l : List (Nat × Dev)} (h : Devs w B l) (hx : Ex w w') {E : Nat → Prop} (hv : Dv w' B' x.1 x.2 E) (hB : B ≤ B') (hB' : w.heap.size ≤ B') : Devs w' B (x :: l) := by
  obtain ⟨D, h⟩ := h
  refine ⟨fun i => E i ∨ D i, Devz.cons.2 ⟨E, D, ⟨hv.dev.lower hB, hv.good, hv.live⟩, h.other hx fun i hi => hi.elim, fun i he hd => ?_, fun i => Iff.rfl⟩⟩
  have := h.lt i hd
  have := (hv.dev.typed he).2.1
  omega
theorem Devs.none (w : World) (B : Nat) : Devs w B [] := ⟨fun _ => False, fun _ h => h⟩
/-- devices alone have moved -/
def Mv (w w' : World) (B : Nat) : Prop := ∃ D, Kp w w' D ∧ ∀ i, D i → (Typed w 62 i ∨ Typed w 66 i ∨ Typed w 68 i) ∧ B ≤ i
theorem Mv.ex {w0 w w' : World} {B : Nat} (h : Mv w w' B) (hx : Ex w0 w) (hB : w0.heap.size ≤ B) : Ex w0 w' := by
  obtain ⟨D, k, hD⟩ := h
  exact hx.then k fun i hi => Nat.le_trans hB (hD i hi).2
theorem Mv.own {w w' : World} {B : Nat} (h : Mv w w' B) {B' : Nat} {e : TypeId} {sz : Nat} {p : Option Addr} {n c : Nat} {xs : List Value} (o : Own w B' e sz p n c xs) (h1 : e ≠ 62) (h2 : e ≠ 66) (h3 : e ≠ 68) : Own w' B' e sz p n c xs := by
  obtain ⟨D, k, hD⟩ := h
  refine o.kp k fun x hx hm => ?_
  have ht := (o.typed hx).1
  rcases (hD _ hm).1 with hm | hm | hm
  · exact ht.ne hm h1 rfl
  · exact ht.ne hm h2 rfl
  · exact ht.ne hm h3 rfl
theorem Devs.use {w : World} {B p : Nat} {X : Dev} {l : List (Nat × Dev)} (h : Devs w B ((p, X) :: l)) : ∃ E, Dv w B p X E ∧ ∀ w' X', After w B p X' E w' → Live X' → Devs w' B ((p, X') :: l) ∧ Mv w w' B := by
  obtain ⟨D, h⟩ := h
  obtain ⟨E, F, h1, h2, h3, h4⟩ := Devz.cons.1 h
  refine ⟨E, h1, fun w' X' ha hl => ?_⟩
  obtain ⟨E', d', g', k', hE'⟩ := ha
  refine ⟨⟨fun i => E' i ∨ F i, Devz.cons.2 ⟨E', F, ⟨d', g', hl⟩, Devz.other k' h2 h3, fun i he hf => ?_, fun i => Iff.rfl⟩⟩, E, k', fun i hi => ⟨(h1.dev.typed hi).1, (h1.dev.typed hi).2.1⟩⟩
  rcases hE' i he with he | he
  · exact h3 i he hf
  · have := h2.lt i hf
    omega
theorem Mv.of_ex {w w1 w2 : World} {B : Nat} (hx : Ex w w1) (h : Mv w1 w2 B) (hB : B ≤ w.heap.size) {B' : Nat} {e : TypeId} {sz : Nat} {p : Option Addr} {n c : Nat} {xs : List Value} (o : Own w B' e sz p n c xs) (h1 : e ≠ 62) (h2 : e ≠ 66) (h3 : e ≠ 68) : Own w2 B' e sz p n c xs := h.own (o.ex hx) h1 h2 h3

/-! ### A write that is copied -/
theorem fill2 (i : Int) (p : Option Addr) (n c : Nat) : Instr.fill (fun i => some (i * 2, 2)) (madeCells #[(Value.int .i64 0), (Value.slice none 0 0)] (1 * 2)) [(0, (Value.agg #[.int .i64 i, .slice p n c]))] = some #[.int .i64 i, .slice p n c] :=
  fill_whole 2 _ _ (by rw [size_madeCells]) rfl
theorem put_one {w0 w : World} {px : Nat} {X : Dev} {l : List (Nat × Dev)} (h : Devs w w0.heap.size ((px, X) :: l)) (hx : Ex w0 w) {B1 B2 : Nat} {i : Int} {p : Option Addr} {c : Nat} {s : List Int} (o5 : Own w B2 5 1 p 64 c (u8s s)) (hs : Sec s) (hi : 0 ≤ i ∧ i < (X.now.length : Int)) (hcnt : X.loose.length ≤ 100000000)
    {A N : World → Prop} {X1 : List PanicEntry → World → Prop}
    (K : ∀ w', Devs w' w0.heap.size ((px, put1 X i s) :: l) → Ex w0 w' → (∀ {B' : Nat} {e : TypeId} {sz : Nat} {p : Option Addr} {n c : Nat} {xs : List Value}, Own w B' e sz p n c xs → e ≠ 62 → e ≠ 66 → e ≠ 68 → Own w' B' e sz p n c xs) → N w') :
    newP w #[.int .i64 i, .slice p 64 c] 32 fun b4 w17 =>
      callP Try.prog 10 #[(Value.pointer (some (⟨px, 0, none⟩ : Addr))), (Value.slice (some ⟨b4, 0, none⟩) 1 1)] w17 (fun v13 w18 =>
        dI .i64 v13 fun x6 => cond (x6 != 0) (A w18) (N w18)) X1 := by
  rintro b4 w17 rfl rfl
  have o17 := Own.new (w := w) [.int .i64 i, .slice p 64 c] 32
  have x17 := Ex.alloc w (.cells #[.int .i64 i, .slice p 64 c] 32)
  generalize w.alloc (.cells #[.int .i64 i, .slice p 64 c] 32) = w17 at o17 x17 ⊢
  obtain ⟨E, hv, hn⟩ := (h.ex x17).use
  refine callP.use (PutOne hv.dev hv.good (Nat.le_trans hx.size x17.size) o17 (o5.ex x17) hs hcnt) ?_
  rw [put_live hv.live.after hv.live.on hi hs.1]
  rintro _ w18 ⟨rfl, ha⟩
  try dsimp only [dI_i64, dI_u8, dI_u16, dI_u32, dB_bool, dS_slice, dP_ptr, dT_tup, dA_agg, dStr_str, dF_f, dC_c, dM_m, optP_some, ga0, ga1, ga2, ga3, ga4, cond_true, cond_false, chk_true, Bool.not_true, Bool.not_false, Option.isNone_none, Option.isNone_some, List.toList_toArray]
  rw [cond_neg (by decide)]
  obtain ⟨hd, hm⟩ := hn w18 _ ha ⟨hv.live.after, hv.live.on⟩
  exact K w18 hd (hm.ex (hx.trans x17) (Nat.le_refl _)) fun o h1 h2 h3 => hm.own (o.ex x17) h1 h2 h3
theorem put_copy {w0 w : World} {px : Nat} {X : Dev} {l : List (Nat × Dev)} (h : Devs w w0.heap.size ((px, X) :: l)) (hx : Ex w0 w) {t B1 B2 : Nat} {i : Int} {p : Option Addr} {c : Nat} {s : List Int} (o : Own w B1 32 2 (some ⟨t, 0, none⟩) 1 1 [.int .i64 i, .slice p 64 c]) (o5 : Own w B2 5 1 p 64 c (u8s s)) (hs : Sec s) (hi : 0 ≤ i ∧ i < (X.now.length : Int)) (hcnt : X.loose.length ≤ 100000000)
    {A N : World → Prop} {X1 : List PanicEntry → World → Prop}
    (K : ∀ w', Devs w' w0.heap.size ((px, put1 X i s) :: l) → Ex w0 w' → (∀ {B' : Nat} {e : TypeId} {sz : Nat} {p : Option Addr} {n c : Nat} {xs : List Value}, Own w B' e sz p n c xs → e ≠ 62 → e ≠ 66 → e ≠ 68 → Own w' B' e sz p n c xs) → N w') :
    ∃ (cs1 : Array Value), cs1.size = 2 ∧ CellsAt w (⟨t, 0, none⟩ : Addr) cs1.toList ∧
    (optP (Instr.fill (fun i => some (i * 2, 2)) (madeCells #[(Value.int .i64 0), (Value.slice none 0 0)] (1 * 2)) [(0, (Value.agg cs1))]) fun cs2 =>
      newP w cs2 32 fun b4 w17 =>
      callP Try.prog 10 #[(Value.pointer (some (⟨px, 0, none⟩ : Addr))), (Value.slice (some ⟨b4, 0, none⟩) 1 1)] w17 (fun v13 w18 =>
        dI .i64 v13 fun x6 => cond (x6 != 0) (A w18) (N w18)) X1) :=
  ⟨#[.int .i64 i, .slice p 64 c], rfl, o.cells, optP_of (fill2 _ _ _ _) (put_one (B1 := B1) h hx o5 hs hi hcnt K)⟩
theorem twoway {w : World} {x : Int} {A : Addr} {j : Nat} (hx : 0 ≤ x ∧ x < 256) (hc : ∀ w', Ex w w' → w'.cell? (A.add j) = some (.int .u8 x)) {X1 X2 : List PanicEntry → World → Prop} {K : Nat → World → Prop}
    (hK : ∀ b p c w' B1 B2, Ex w w' → Own w' B1 32 2 (some ⟨b, 0, none⟩) 1 1 [.int .i64 (x % 10), .slice p 64 c] → Own w' B2 5 1 p 64 c (u8s (rep x)) → K b w') :
    (callP Try.prog 11 #[(Value.int .u8 x)] w.drew (fun v11 w9 =>
                      dS v11 fun p4 n1 c1 =>
                      w9.cell? (A.add j) = some (Value.int .u8 x) ∧
                      (newP w9 #[(Value.int .i64 0), (Value.slice none 0 0)] 32 fun b2 w11 =>
                        (Value.agg #[(Value.int .i64 (IntKind.i64.wrap (Int.tmod x 10))), (Value.slice p4 n1 c1)]) = (Value.agg #[(Value.int .i64 (IntKind.i64.wrap (Int.tmod x 10))), (Value.slice p4 n1 c1)]) ∧
                        (w11.cell? (A.add j) = some (Value.int .u8 x) ∧
                          (Wr w11 (⟨b2, 0, none⟩ : Addr) [(Value.int .i64 (IntKind.i64.wrap (Int.tmod x 10))), (Value.slice p4 n1 c1)] ∧ ∀ w12, w12 = w11.setCells (⟨b2, 0, none⟩ : Addr).block (⟨b2, 0, none⟩ : Addr).off [(Value.int .i64 (IntKind.i64.wrap (Int.tmod x 10))), (Value.slice p4 n1 c1)] →
                          K b2 w12)))) X1) ∧
                  (newP w.drew #[(Value.int .i64 0), (Value.slice none 0 0)] 32 fun b3 w13 =>
                    w13.cell? (A.add j) = some (Value.int .u8 x) ∧
                    (w13.cell? (A.add j) = some (Value.int .u8 x) ∧
                      (callP Try.prog 11 #[(Value.int .u8 x)] w13 (fun v12 w14 =>
                          dS v12 fun p5 n2 c2 =>
                          w14.cell? (A.add j) = some (Value.int .u8 x) ∧
                          (Wr w14 (⟨b3, 0, none⟩ : Addr) [(Value.int .i64 (IntKind.i64.wrap (Int.tmod x 10))), (Value.slice p5 n2 c2)] ∧ ∀ w16, w16 = w14.setCells (⟨b3, 0, none⟩ : Addr).block (⟨b3, 0, none⟩ : Addr).off [(Value.int .i64 (IntKind.i64.wrap (Int.tmod x 10))), (Value.slice p5 n2 c2)] →
                          K b3 w16)) X2))) := by
  have e1 : IntKind.i64.wrap (Int.tmod x 10) = x % 10 := by rw [tmod_of hx.1, w64 (by omega) (by omega)]
  have hdr := Ex.drew w
  rw [e1]
  constructor
  · refine callP.use (fill_spec x w.drew) ?_
    rintro _ w9 ⟨p, c, rfl, x9, o9⟩
    try dsimp only [dI_i64, dI_u8, dI_u16, dI_u32, dB_bool, dS_slice, dP_ptr, dT_tup, dA_agg, dStr_str, dF_f, dC_c, dM_m, optP_some, ga0, ga1, ga2, ga3, ga4, cond_true, cond_false, chk_true, Bool.not_true, Bool.not_false, Option.isNone_none, Option.isNone_some, List.toList_toArray]
    have X9 := hdr.trans x9
    refine ⟨hc _ X9, ?_⟩
    rintro b2 w11 rfl rfl
    have o11 := Own.new (w := w9) [.int .i64 0, .slice none 0 0] 32
    have x11 := Ex.alloc w9 (.cells #[.int .i64 0, .slice none 0 0] 32)
    generalize w9.alloc (.cells #[.int .i64 0, .slice none 0 0] 32) = w11 at o11 x11 ⊢
    refine ⟨rfl, hc _ (X9.trans x11), ?_⟩
    have t11 : ∀ i, i = w9.heap.size → Typed w11 32 i := fun i hi => hi ▸ (o11.typed rfl).1
    refine o11.put (by rfl) two_one fun w12 k12 o12 => ?_
    refine hK _ _ _ _ _ _ ((X9.trans x11).then k12 fun i hi => by rw [hi]; exact X9.size) o12 ((o9.ex x11).away k12 32 t11 (by decide))
  · rintro b3 w13 rfl rfl
    have o13 := Own.new (w := w.drew) [.int .i64 0, .slice none 0 0] 32
    have x13 := Ex.alloc w.drew (.cells #[.int .i64 0, .slice none 0 0] 32)
    generalize w.drew.alloc (.cells #[.int .i64 0, .slice none 0 0] 32) = w13 at o13 x13 ⊢
    have X13 := hdr.trans x13
    refine ⟨hc _ X13, hc _ X13, ?_⟩
    refine callP.use (fill_spec x w13) ?_
    rintro _ w14 ⟨p, c, rfl, x14, o14⟩
    try dsimp only [dI_i64, dI_u8, dI_u16, dI_u32, dB_bool, dS_slice, dP_ptr, dT_tup, dA_agg, dStr_str, dF_f, dC_c, dM_m, optP_some, ga0, ga1, ga2, ga3, ga4, cond_true, cond_false, chk_true, Bool.not_true, Bool.not_false, Option.isNone_none, Option.isNone_some, List.toList_toArray]
    have X14 := X13.trans x14
    have o13 := o13.ex x14
    refine ⟨hc _ X14, ?_⟩
    have t14 : ∀ i, i = w.drew.heap.size → Typed w14 32 i := fun i hi => hi ▸ (o13.typed rfl).1
    refine o13.put (by rfl) two_one fun w12 k12 o12 => ?_
    refine hK _ _ _ _ _ _ (X14.then k12 fun i hi => by rw [hi]; exact hdr.size) o12 (o14.away k12 32 t14 (by decide))

/-! ### What a crash leaves -/
def setAll (s : List (List Int)) (l : List (Int × List Int)) : List (List Int) := l.foldl (fun s p => s.set p.1.toNat p.2) s
theorem settle_all (keep : List Int) : ∀ (l : List (Int × List Int)) (s : List (List Int)) (k : Int), (∀ (j : Nat), j < l.length → has keep (k + j) = true) → settle keep s l k = setAll s l
  | [], s, k, _ => rfl
  | x :: r, s, k, h => by
    have h0 := h 0 (by simp)
    rw [show k + ((0 : Nat) : Int) = k by omega] at h0
    rw [settle_cons, h0, if_pos rfl, settle_all keep r _ _ fun j hj => by
      have := h (j + 1) (by simp; omega)
      rwa [show k + ((j + 1 : Nat) : Int) = k + 1 + (j : Int) by omega] at this]
    rfl
theorem settle_none : ∀ (l : List (Int × List Int)) (s : List (List Int)) (k : Int), settle [] s l k = s
  | [], s, k => rfl
  | x :: r, s, k => by
    rw [settle_cons, if_neg (by simp [has])]
    exact settle_none r s _
def nums (n : Nat) : List Int := (List.range n).map fun (i : Nat) => (i : Int)
theorem has_nums {n j : Nat} (h : j < n) : has (nums n) (0 + (j : Int)) = true := by
  unfold has nums
  rw [List.any_eq_true]
  exact ⟨j, List.mem_map.2 ⟨j, List.mem_range.2 h, rfl⟩, by simp⟩
theorem nums_push (n : Nat) : nums n ++ [(n : Int)] = nums (n + 1) := by unfold nums; rw [List.range_succ, List.map_append]; rfl
theorem nums_len (n : Nat) : (nums n).length = n := by simp [nums]
end Go.Proofs.Yticdeknmeafjcaa.G

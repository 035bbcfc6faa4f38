/-
  The law BasinAll: the walk.
-/
import Derived.Test.YticdeknmeafjcaaBasinF
namespace Go.Proofs.Yticdeknmeafjcaa.G
open Go.Dec Go.RowKit
set_option linter.unusedVariables false
set_option linter.unusedSimpArgs false

abbrev RR (w0 : World) : Ending → World → Prop := Ret fun v w' => v = .bool true ∧ Ex w0 w'
theorem fresh_dv {w' : World} {B px : Nat} {D : Nat → Prop} (h : DevIs w' B px (fresh (10 : Int).toNat) D) : Dv w' B px (fresh 10) D := ⟨h, fresh_good (by omega), ⟨rfl, rfl⟩⟩
theorem flush_use {w0 w : World} {px : Nat} {X : Dev} {l : List (Nat × Dev)} (h : Devs w w0.heap.size ((px, X) :: l)) (hx : Ex w0 w) {A N : World → Prop} {X1 : List PanicEntry → World → Prop}
    (K : ∀ w', Devs w' w0.heap.size ((px, { X with sure := X.now, loose := [] }) :: l) → Ex w0 w' → N w') :
    callP Try.prog 12 #[(Value.pointer (some (⟨px, 0, none⟩ : Addr)))] w (fun v16 w26 => dI .i64 v16 fun x9 => cond (x9 != 0) (A w26) (N w26)) X1 := by
  obtain ⟨E, hv, hn⟩ := h.use
  refine callP.use (Flush_spec hv.dev hv.good) ?_
  rw [flush_live hv.live.after hv.live.on]
  rintro _ w18 ⟨rfl, ha⟩
  try dsimp only [dI_i64, dI_u8, dI_u16, dI_u32, dB_bool, dS_slice, dP_ptr, dT_tup, dA_agg, dStr_str, dF_f, dC_c, dM_m, optP_some, ga0, ga1, ga2, ga3, ga4, cond_true, cond_false, chk_true, Bool.not_true, Bool.not_false, Option.isNone_none, Option.isNone_some, List.toList_toArray]
  rw [cond_neg (by decide)]
  obtain ⟨hd, hm⟩ := hn w18 _ ha ⟨hv.live.after, hv.live.on⟩
  exact K w18 hd (hm.ex hx (Nat.le_refl _))
theorem get_live {w : World} {px : Nat} {X : Dev} {D : Nat → Prop} {B : Nat} (h : Dv w B px X D) {i : Int} (hi : 0 ≤ i ∧ i < (X.now.length : Int)) : basin_Basin_Get.C (some ⟨px, 0, none⟩) i w (Ret fun v w' => Ex w w' ∧ ∃ p c s, X.now[i.toNat]? = some s ∧ Sec s ∧ v = .tuple #[.slice p 64 c, .int .i64 0] ∧ Own w' w.heap.size 5 1 p 64 c (u8s s)) := by
  refine Calls.mono (Get_spec h.dev h.good i) ?_
  rintro e w' ⟨v, rfl, hx, hv⟩
  refine ⟨v, rfl, hx, ?_⟩
  have hgot : got X i = 0 := by
    unfold got
    rw [if_neg (by rw [h.live.on]; decide), if_neg (by omega)]
  rcases hv with ⟨hv, _⟩ | ⟨_, p', c', s, hs, rfl, o⟩
  · exact absurd hgot hv
  · exact ⟨p', c', s, hs, h.good.now s (List.mem_of_getElem? hs), rfl, o⟩

theorem k1_spec {w0 w : World} {pa pb pc : Nat} {a b c : Dev} (hT : Devs w w0.heap.size [(pa, a), (pb, b), (pc, c)]) (X : Ex w0 w) {t B1 B2 : Nat} {i : Int} {p : Option Addr} {m : Nat} {s : List Int} (o : Own w B1 32 2 (some ⟨t, 0, none⟩) 1 1 [.int .i64 i, .slice p 64 m]) (o5 : Own w B2 5 1 p 64 m (u8s s)) (hs : Sec s)
    (hi : 0 ≤ i ∧ i < 10) (ha : a.now.length = 10) (hb : b.now.length = 10) (hc : c.now.length = 10) (la : a.loose.length ≤ 1000) (lb : b.loose.length ≤ 1000) (lc : c.loose.length ≤ 1000)
    {t0p : Option Addr} {t0n t0c : Nat} {t1p : Option Addr} {t1n t1c : Nat} {t11 t63 : Int} {t64 : Bool} {C1 : Option Addr → Nat → Nat → Option Addr → Nat → Nat → Option Addr → Option Addr → Option Addr → Int → World → Prop}
    (hC : ∀ w', Devs w' w0.heap.size [(pa, put1 a i s), (pb, put1 b i s), (pc, put1 c i s)] → Ex w0 w' → C1 t0p t0n t0c t1p t1n t1c (some ⟨pa, 0, none⟩) (some ⟨pb, 0, none⟩) (some ⟨pc, 0, none⟩) (IntKind.i64.wrap (t11 + 1)) w') :
    stopcocklaw05_BasinAll.k1 t0p t0n t0c t1p t1n t1c (some ⟨pa, 0, none⟩) (some ⟨pb, 0, none⟩) (some ⟨pc, 0, none⟩) t11 t t63 t64 w (RR w0) C1 := by
  unfold stopcocklaw05_BasinAll.k1
  refine put_copy hT X o o5 hs (by omega) (by omega) fun w1 h1 X1 s1 => ?_
  have o1 := s1 o (by decide) (by decide) (by decide)
  have o51 := s1 o5 (by decide) (by decide) (by decide)
  refine put_copy h1.rot X1 o1 o51 hs (by omega) (by omega) fun w2 h2 X2 s2 => ?_
  have o2 := s2 o1 (by decide) (by decide) (by decide)
  have o52 := s2 o51 (by decide) (by decide) (by decide)
  refine put_copy h2.rot X2 o2 o52 hs (by omega) (by omega) fun w3 h3 X3 s3 => ?_
  exact hC w3 h3.rot X3
theorem k3_spec {w0 w : World} {pa pb pc : Nat} {a b c : Dev} (hT : Devs w w0.heap.size [(pa, a), (pb, b), (pc, c)]) (X : Ex w0 w) {t B1 B2 : Nat} {i : Int} {p : Option Addr} {m : Nat} {s : List Int} (o : Own w B1 32 2 (some ⟨t, 0, none⟩) 1 1 [.int .i64 i, .slice p 64 m]) (o5 : Own w B2 5 1 p 64 m (u8s s)) (hs : Sec s)
    (hi : 0 ≤ i ∧ i < 10) (ha : a.now.length = 10) (hb : b.now.length = 10) (la : a.loose.length ≤ 1000) (lb : b.loose.length ≤ 1000)
    {kp : Option Addr} {kn kc : Nat} (hk : Own w w0.heap.size 3 1 kp kn kc ((nums kn).map (Value.int .i64))) (hkn : kn ≤ 1000)
    {t1p : Option Addr} {t1n t1c : Nat} {t118 : Int} {t119 : Bool} {C2 : Option Addr → Nat → Nat → Option Addr → Option Addr → Option Addr → Option Addr → Nat → Nat → Int → World → Prop}
    (hC : ∀ kp' kc' w', Devs w' w0.heap.size [(pa, put1 a i s), (pb, put1 b i s), (pc, c)] → Ex w0 w' → Own w' w0.heap.size 3 1 kp' (kn + 1) kc' ((nums (kn + 1)).map (Value.int .i64)) → C2 t1p t1n t1c (some ⟨pa, 0, none⟩) (some ⟨pb, 0, none⟩) (some ⟨pc, 0, none⟩) kp' (kn + 1) kc' (IntKind.i64.wrap ((kn : Int) + 1)) w') :
    stopcocklaw05_BasinAll.k3 t1p t1n t1c (some ⟨pa, 0, none⟩) (some ⟨pb, 0, none⟩) (some ⟨pc, 0, none⟩) kp kn kc (kn : Int) t t118 t119 w (RR w0) C2 := by
  unfold stopcocklaw05_BasinAll.k3
  refine put_copy hT X o o5 hs (by omega) (by omega) fun w1 h1 X1 s1 => ?_
  have o1 := s1 o (by decide) (by decide) (by decide)
  have o51 := s1 o5 (by decide) (by decide) (by decide)
  have k1 := s1 hk (by decide) (by decide) (by decide)
  refine put_copy h1.rot X1 o1 o51 hs (by omega) (by omega) fun w2 h2 X2 s2 => ?_
  have k2 := s2 k1 (by decide) (by decide) (by decide)
  rintro b12 w4 rfl rfl
  have x4 := Ex.alloc w2 (.cells #[.int .i64 (kn : Int)] 3)
  have c4 := CellsO.alloc (w := w2) [.int .i64 (kn : Int)] 3
  have c4' : CellsO (w2.alloc (.cells #[.int .i64 (kn : Int)] 3)) (some ⟨w2.heap.size, 0, none⟩) [.int .i64 (kn : Int)] := c4
  generalize w2.alloc (.cells #[.int .i64 (kn : Int)] 3) = w4 at x4 c4' ⊢
  refine appP_own (k2.ex x4) (Nat.le_trans X2.size x4.size) [.int .i64 (kn : Int)] c4' rfl (by simp [Value.oneCell']) rfl (by omega) (by omega) fun p' c' w5 o' k' => ?_
  have tk : ∀ i, (∃ x, kp = some x ∧ x.block = i) → Typed w4 3 i := fun i ⟨x, hx, hi⟩ => hi ▸ ((k2.ex x4).typed hx).1
  have bk : ∀ i, (∃ x, kp = some x ∧ x.block = i) → w0.heap.size ≤ i := fun i ⟨x, hx, hi⟩ => hi ▸ ((k2.ex x4).typed hx).2.1
  have e : (nums kn).map (Value.int .i64) ++ [.int .i64 (kn : Int)] = (nums (kn + 1)).map (Value.int .i64) := by rw [← nums_push, List.map_append]; rfl
  rw [e] at o'
  refine hC _ _ _ ?_ ((X2.trans x4).then k' bk) o'
  have h4 := (h2.rot.rot).ex x4
  obtain ⟨D, h4⟩ := h4
  refine ⟨D, Devz.other k' h4 fun i hi hd => ?_⟩
  have ht := tk i hi
  have := Devz.typed h4 i hd
  rcases this with h | h | h
  · exact ht.ne h (by decide) rfl
  · exact ht.ne h (by decide) rfl
  · exact ht.ne h (by decide) rfl
end Go.Proofs.Yticdeknmeafjcaa.G

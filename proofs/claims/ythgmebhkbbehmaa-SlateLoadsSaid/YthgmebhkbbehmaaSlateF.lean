/-
  The law SlateLoads, the whole: slate.Load answers the newest state that the document's Decode finds on the device.
-/
import Derived.Test.YthgmebhkbbehmaaSlateE
namespace Go.Proofs.Ythgmebhkbbehmaa.G.Sl
open Go.Dec Go.RowKit En
set_option linter.unusedVariables false
set_option linter.unusedSimpArgs false

structure Mid (w : World) (pd : Nat) (d : Bas.Dev) (D : Nat → Prop) (B b2 b3 b4 b5 : Nat) (A c : Acc) (ps : List Value) (W : World) : Prop where
  kept : Kept w b4 b5 c W
  live : Live W B pd d D
  o2 : Owns W 0 ty_api_State 24 (some ⟨b2, 0, none⟩) 1 1 (stC A.1 ps)
  o3 : Owns W 0 ty_api_Plat 2 (some ⟨b3, 0, none⟩) 1 1 (two A.2.1 A.2.2.1)
  st : StO W A.1 ps
theorem Mid.more {w W W' : World} {pd : Nat} {d : Bas.Dev} {D : Nat → Prop} {B b2 b3 b4 b5 : Nat} {A c : Acc} {ps : List Value} (h : Mid w pd d D B b2 b3 b4 b5 A c ps W) (x : Ex W W') : Mid w pd d D B b2 b3 b4 b5 A c ps W' :=
  ⟨h.kept.more x, h.live.ex x, h.o2.ex x, h.o3.ex x, h.st.ex x⟩
theorem Mid.next {w W W' : World} {pd : Nat} {d : Bas.Dev} {D : Nat → Prop} {B b2 b3 b4 b5 : Nat} {A c c' : Acc} {ps : List Value} (h : Mid w pd d D B b2 b3 b4 b5 A c ps W) (hk : Kept w b4 b5 c' W') (k : Kp W W' (fun i => i = b4 ∨ i = b5 ∨ W.heap.size ≤ i)) (n4 : b2 ≠ b4) (n5 : b3 ≠ b5) : Mid w pd d D B b2 b3 b4 b5 A c' ps W' := by
  obtain ⟨_, _, _, _, ⟨qs, g4, _⟩, g5⟩ := h.kept
  have t4 := (g4.typed rfl).1
  have t5 := (g5.typed rfl).1
  have t2 := h.o2.typed rfl
  have t3 := h.o3.typed rfl
  have off : ∀ {x : Nat} {e : TypeId}, Typed W e x → x < W.heap.size → (e ≠ ty_api_State ∨ x ≠ b4) → (e ≠ ty_api_Plat ∨ x ≠ b5) → ¬ (x = b4 ∨ x = b5 ∨ W.heap.size ≤ x) := fun {x e} t hx h1 h2 hh => by
    rcases hh with rfl | rfl | hh
    · rcases h1 with h1 | h1
      · exact t.ne t4 h1 rfl
      · exact h1 rfl
    · rcases h2 with h2 | h2
      · exact t.ne t5 h2 rfl
      · exact h2 rfl
    · omega
  refine ⟨hk, ⟨h.live.dev.kp k fun i hi => ?_, h.live.good, h.live.off, h.live.len⟩, h.o2.kp k fun x hx => ?_, h.o3.kp k fun x hx => ?_, h.st.kp k fun i ht hi => ?_⟩
  · obtain ⟨ht, _, hlt⟩ := h.live.dev.typed hi
    rcases ht with ht | ht | ht
    · exact off ht hlt (.inl (by decide)) (.inl (by decide))
    · exact off ht hlt (.inl (by decide)) (.inl (by decide))
    · exact off ht hlt (.inl (by decide)) (.inl (by decide))
  · cases hx
    exact off t2.1 t2.2.2 (.inr n4) (.inl (by decide))
  · cases hx
    exact off t3.1 t3.2.2 (.inl (by decide)) (.inr n5)
  · exact off ht hi (.inl (by decide)) (.inl (by decide))
theorem SlateLoads_row (p : Option Addr) (n c : Nat) (rows : List (List Value)) (p' : Option Addr) (n' c' : Nat) (rows' : List (List Value)) (w : World)
    (hl : SlIs w (fun b c => c * b ≤ 140737488351232) 24 (LineIs w (fun b c => c * b ≤ 140737488351232) (.sl 1 (.int .u8 .done) .done)) p n c rows)
    (hl' : SlIs w (fun b c => c * b ≤ 140737488351232) 24 (LineIs w (fun b c => c * b ≤ 140737488351232) (.sl 1 (.int .u8 .done) .done)) p' n' c' rows') :
    stopcocklaw14_SlateLoads.C p n c p' n' c' w (Ret fun v w' => v = .bool true ∧ Ex w w') := by
  obtain ⟨la, hpa, hba, _⟩ := pin_of hl
  obtain ⟨lb, hpb, hbb, _⟩ := pin_of hl'
  apply stopcocklaw14_SlateLoads.ok
  unfold stopcocklaw14_SlateLoads.main
  refine callP.use (disk_spec hpa hba hpb hbb) ?_
  rintro _ w1 ⟨pd, d, D, rfl, hlive, x1⟩
  try dsimp only [dI_i64, dI_u8, dI_u16, dI_u32, dB_bool, dS_slice, dP_ptr, dT_tup, dA_agg, dStr_str, dF_f, dC_c, dM_m, optP_some, ga0, ga1, ga2, ga3, ga4, cond_true, cond_false, chk_true, Bool.not_true, Bool.not_false, Option.isNone_none, Option.isNone_some, List.toList_toArray]
  refine callP.use (awake_spec w1) ?_
  rintro _ w3 ⟨rfl, x3⟩
  try dsimp only [dI_i64, dI_u8, dI_u16, dI_u32, dB_bool, dS_slice, dP_ptr, dT_tup, dA_agg, dStr_str, dF_f, dC_c, dM_m, optP_some, ga0, ga1, ga2, ga3, ga4, cond_true, cond_false, chk_true, Bool.not_true, Bool.not_false, Option.isNone_none, Option.isNone_some, List.toList_toArray]
  rw [cond_neg (by rfl)]
  have hlive := hlive.ex x3
  refine callP.use (Load_spec hlive) ?_
  have hor := accs_or d 2
  generalize hA : accs d 2 = A at hor
  rintro _ w5 ⟨⟨ps, rfl, hst⟩, x5⟩
  have hlive := hlive.ex x5
  have hx5 := x1.trans (x3.trans x5)
  try dsimp only [dI_i64, dI_u8, dI_u16, dI_u32, dB_bool, dS_slice, dP_ptr, dT_tup, dA_agg, dStr_str, dF_f, dC_c, dM_m, optP_some, ga0, ga1, ga2, ga3, ga4, cond_true, cond_false, chk_true, Bool.not_true, Bool.not_false, Option.isNone_none, Option.isNone_some, List.toList_toArray]
  rintro b2 w7 rfl rfl b3 w8 rfl rfl
  rw [zst_new, two_new]
  have o2 := (Owns.new (w := w5) zst ty_api_State).lower (Nat.zero_le _)
  have x7 := Ex.alloc w5 (.cells zst.toArray ty_api_State)
  generalize hb2 : w5.heap.size = b2 at o2 ⊢
  generalize w5.alloc (.cells zst.toArray ty_api_State) = w7 at o2 x7 ⊢
  have o3 := (Owns.new (w := w7) (two 0 0) ty_api_Plat).lower (Nat.zero_le _)
  have x8 := Ex.alloc w7 (.cells (two 0 0).toArray ty_api_Plat)
  have hb3 := x7.size
  generalize w7.heap.size = b3 at o3 hb3 ⊢
  generalize w7.alloc (.cells (two 0 0).toArray ty_api_Plat) = w8 at o3 x8 ⊢
  have o2 := o2.ex x8
  have hcl := hst.at.clen
  refine chk_of (decide_eq_true (by rw [List.size_toArray]; exact hcl)) ?_
  have t2 : ∀ i, i = b2 → Typed w8 ty_api_State i := fun i hi => by rw [hi]; exact (o2.typed rfl).1
  refine o2.put (cs := stC A.1 ps) hcl hst.at.one fun w9 k9 o9 => ?_
  have o3 := o3.away k9 ty_api_State t2 (by decide)
  refine chk_of (by rfl) ?_
  have t3 : ∀ i, i = b3 → Typed w9 ty_api_Plat i := fun i hi => by rw [hi]; exact (o3.typed rfl).1
  refine o3.put (cs := two A.2.1 A.2.2.1) (by rfl) two_one fun w10 k10 o10 => ?_
  have o9 := o9.away k10 ty_api_Plat t3 (by decide)
  have x10 : Ex w5 w10 := ((x7.trans x8).then k9 fun i hi => by omega).then k10 fun i hi => by omega
  have hlive := hlive.ex x10
  have hst := hst.ex x10
  have hx10 := hx5.trans x10
  have l2 : b2 < w10.heap.size := (o9.ge rfl).2
  have l3 : b3 < w10.heap.size := (o10.ge rfl).2
  clear o2 o3 t2 t3 x7 x8 k9 k10
  rintro b4 w11 rfl rfl
  rw [zst_new]
  have o4 := (Owns.new (w := w10) zst ty_api_State).lower (Nat.zero_le _)
  have x11 := Ex.alloc w10 (.cells zst.toArray ty_api_State)
  have hl4 := hx10.size
  generalize hb4 : w10.heap.size = b4 at o4 hl4 l2 l3 ⊢
  generalize w10.alloc (.cells zst.toArray ty_api_State) = w11 at o4 x11 ⊢
  have t4 : ∀ i, i = b4 → Typed w11 ty_api_State i := fun i hi => by rw [hi]; exact (o4.typed rfl).1
  refine o4.put (cs := zst) (by rfl) zst_one fun w12 k12 o12 => ?_
  have x12 : Ex w10 w12 := x11.then k12 fun i hi => by omega
  rintro b5 w13 rfl rfl
  rw [two_new]
  have o5 := (Owns.new (w := w12) (two 0 0) ty_api_Plat).lower (Nat.zero_le _)
  have x13 := Ex.alloc w12 (.cells (two 0 0).toArray ty_api_Plat)
  have hl5 := x12.size
  generalize w12.heap.size = b5 at o5 hl5 ⊢
  generalize w12.alloc (.cells (two 0 0).toArray ty_api_Plat) = w13 at o5 x13 ⊢
  have o12 := o12.ex x13
  have t5 : ∀ i, i = b5 → Typed w13 ty_api_Plat i := fun i hi => by rw [hi]; exact (o5.typed rfl).1
  refine o5.put (cs := two 0 0) (by rfl) two_one fun w14 k14 o14 => ?_
  have o12 := o12.away k14 ty_api_Plat t5 (by decide)
  have x14 : Ex w10 w14 := (x12.trans x13).then k14 fun i hi => by omega
  have n4 : b2 ≠ b4 := by omega
  have n5 : b3 ≠ b5 := by omega
  have hmid : Mid w pd d D w.heap.size b2 b3 b4 b5 A acc0 ps w14 := ⟨⟨hx10.trans x14, by omega, by omega, trivial, ⟨_, o12, StO.zero _⟩, o14⟩, hlive.ex x14, o9.ex x14, o10.ex x14, hst.ex x14⟩
  unfold stopcocklaw14_SlateLoads.l1
  refine ⟨fun t5' t6 t7 t8 t9 t10 t11 t12 t13 W => t5' = some ⟨pd, 0, none⟩ ∧ b2 = t6 ∧ b3 = t7 ∧ A.2.2.2 = t8 ∧ (if A.2.2.2 = 0 then 11 else 0) = t9 ∧ t10 = (accs d t13.toNat).2.2.2 ∧ b4 = t11 ∧ b5 = t12 ∧ 0 ≤ t13 ∧ t13 ≤ 2 ∧ Mid w pd d D w.heap.size b2 b3 b4 b5 A (accs d t13.toNat) ps W, fun t5' t6 t7 t8 t9 t10 t11 t12 t13 W => (2 - t13).toNat, ⟨rfl, rfl, rfl, rfl, rfl, rfl, rfl, rfl, by omega, by omega, hmid⟩, ?_⟩
  clear hmid o14 o12 o5 o4 o9 o10 x14 x13 x12 x11 k14 k12 t4 t5
  rintro _ _ _ _ _ _ _ _ t13 W ⟨rfl, rfl, rfl, rfl, rfl, rfl, rfl, rfl, i0, i1, hmid⟩
  unfold stopcocklaw14_SlateLoads.b1
  obtain ⟨i, rfl⟩ := Int.eq_ofNat_of_zero_le i0
  rw [Int.toNat_natCast] at hmid ⊢
  refine cond_of (fun hc => ?_) (fun hc => ?_)
  · have hc := of_decide_eq_true hc
    have e12 : IntKind.i64.wrap (12 * (i : Int)) = ((12 * i : Nat) : Int) := by rw [w64 (by omega) (by omega)]; rfl
    rw [e12]
    refine callP.use (lpages_spec hmid.live (at_ := 12 * i) (by omega)) ?_
    rintro _ w15 ⟨q, m, e, rfl, hq, hm, x15⟩
    try dsimp only [dI_i64, dI_u8, dI_u16, dI_u32, dB_bool, dS_slice, dP_ptr, dT_tup, dA_agg, dStr_str, dF_f, dC_c, dM_m, optP_some, ga0, ga1, ga2, ga3, ga4, cond_true, cond_false, chk_true, Bool.not_true, Bool.not_false, Option.isNone_none, Option.isNone_some, List.toList_toArray]
    refine callP.use (both (pgL_bytes hmid.live.good _) (by omega) hq).2 ?_
    rintro _ w17 ⟨qs, rfl, hqs, x17⟩
    try dsimp only [dI_i64, dI_u8, dI_u16, dI_u32, dB_bool, dS_slice, dP_ptr, dT_tup, dA_agg, dStr_str, dF_f, dC_c, dM_m, optP_some, ga0, ga1, ga2, ga3, ga4, cond_true, cond_false, chk_true, Bool.not_true, Bool.not_false, Option.isNone_none, Option.isNone_some, List.toList_toArray]
    have hmid' := hmid.more (x15.trans x17)
    refine Kept.step hmid'.kept hqs rfl (N := fun t' W' => (some (⟨pd, 0, none⟩ : Addr) = some ⟨pd, 0, none⟩ ∧ b2 = b2 ∧ b3 = b3 ∧ A.2.2.2 = A.2.2.2 ∧ (if A.2.2.2 = 0 then (11 : Int) else 0) = (if A.2.2.2 = 0 then 11 else 0) ∧ t' = (accs d (IntKind.i64.wrap ((i : Int) + 1)).toNat).2.2.2 ∧ b4 = b4 ∧ b5 = b5 ∧ 0 ≤ IntKind.i64.wrap ((i : Int) + 1) ∧ IntKind.i64.wrap ((i : Int) + 1) ≤ 2 ∧ Mid w pd d D w.heap.size b2 b3 b4 b5 A (accs d (IntKind.i64.wrap ((i : Int) + 1)).toNat) ps W') ∧ (2 - IntKind.i64.wrap ((i : Int) + 1)).toNat < (2 - (i : Int)).toNat) fun W' t' ht hk' kp => ?_
    have hnext : IntKind.i64.wrap ((i : Int) + 1) = ((i + 1 : Nat) : Int) := by rw [w64 (by omega) (by omega)]; rfl
    rw [hnext]
    exact ⟨⟨rfl, rfl, rfl, rfl, rfl, ht, rfl, rfl, by omega, by omega, hmid'.next hk' kp n4 n5⟩, by ((try dsimp only); omega)⟩
  · have hc := of_decide_eq_false hc
    obtain rfl : i = 2 := by omega
    rw [hA] at hmid ⊢
    unfold stopcocklaw14_SlateLoads.k1
    obtain ⟨⟨hx, _, _, _, ⟨qs, g4, gst⟩, g5⟩, _, m2, m3, mst⟩ := hmid
    have hcl := mst.at.clen
    have hql := gst.at.clen
    refine cond_of (fun h0 => ?_) (fun h0 => ?_)
    · have h0 : A.2.2.2 = 0 := by simpa using h0
      have hAz := hor.1 h0
      rw [if_pos h0]
      subst hAz
      rw [cond_pos (by rfl), cond_pos (by rfl)]
      refine ⟨(two 0 0).toArray, rfl, m3.cells, true, plat_self 0 0 _ _, ?_⟩
      rw [cond_pos rfl]
      refine ⟨(stC (fl []) ps).toArray, by rw [List.size_toArray]; exact hcl, m2.cells, ?_⟩
      refine callP.use (Same_spec (R := fl []) (ps := ps) (qs := List.replicate 8 (.slice none 0 0)) mst.at (StO.zero W).at) ?_
      rintro _ w25 ⟨rfl, x25⟩
      try dsimp only [dI_i64, dI_u8, dI_u16, dI_u32, dB_bool, dS_slice, dP_ptr, dT_tup, dA_agg, dStr_str, dF_f, dC_c, dM_m, optP_some, ga0, ga1, ga2, ga3, ga4, cond_true, cond_false, chk_true, Bool.not_true, Bool.not_false, Option.isNone_none, Option.isNone_some, List.toList_toArray]
      exact Ret.mk ⟨rfl, hx.trans x25⟩
    · have h0 : ¬ A.2.2.2 = 0 := by simpa using h0
      rw [if_neg h0, cond_pos (by rfl), cond_pos (by simp)]
      refine ⟨(two A.2.1 A.2.2.1).toArray, rfl, m3.cells, (two A.2.1 A.2.2.1).toArray, rfl, g5.cells, true, plat_self _ _ _ _, ?_⟩
      rw [cond_pos rfl]
      refine ⟨(stC A.1 ps).toArray, by rw [List.size_toArray]; exact hcl, m2.cells, (stC A.1 qs).toArray, by rw [List.size_toArray]; exact hql, g4.cells, ?_⟩
      refine callP.use (Same_spec mst.at gst.at) ?_
      rintro _ w27 ⟨rfl, x27⟩
      try dsimp only [dI_i64, dI_u8, dI_u16, dI_u32, dB_bool, dS_slice, dP_ptr, dT_tup, dA_agg, dStr_str, dF_f, dC_c, dM_m, optP_some, ga0, ga1, ga2, ga3, ga4, cond_true, cond_false, chk_true, Bool.not_true, Bool.not_false, Option.isNone_none, Option.isNone_some, List.toList_toArray]
      exact Ret.mk ⟨rfl, hx.trans x27⟩
end Go.Proofs.Ythgmebhkbbehmaa.G.Sl
